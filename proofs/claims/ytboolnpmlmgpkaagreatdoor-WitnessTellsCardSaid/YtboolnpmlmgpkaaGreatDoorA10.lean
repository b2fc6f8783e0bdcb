/- Abstract values, heaps and frames over the calculus, part 10. -/
import Derived.Test.YtboolnpmlmgpkaaGreatDoorA9
set_option linter.unusedVariables false
namespace Go.Abs
open Go Go.RowKit
section
variable {e : E} {g : FuncId} {args : List V} {h : H} {R : AEnd → H → (Nat → Bool) → Prop}

/-- A function that computes, and returns a row of its own making. -/
def EvF (e : E) (g : FuncId) (args : List V) (k n : Nat) (cs : List V) : Prop :=
  ACalls e g args [] fun ae h' _ => match ae with
    | .ret v => (v = .nils ∧ n = 0 ∧ cs = []) ∨ ∃ id cap, v = .ls id k 0 n cap ∧ n ≤ cap ∧ h'[id]? = some (.cells cs)
    | .pan _ => False

theorem ACalls.evF {k n : Nat} {cs : List V} (hv : EvF e g args k n cs) (hd : V.dats args = true) (hcs : V.dats cs = true) (hr : R (.ret (.ls h.length k 0 n n)) (h ++ [.cells cs]) (fun _ => false)) : ACalls e g args h R := by
  intro ok pl w vs hs hl
  refine (hv _ _ w vs hs.toData (VList.mono (cext_data ok pl w) _ _ (VList.todata _ _ hd hl))).mono ?_
  rintro en w' ⟨p, pl', h', ae, hs', k', he, hq⟩
  have x : WExt w w' := ⟨k'.os, k'.tape, k'.output, k'.size, fun b hb => k'.same b hb (fun i hi => by cases hi)⟩
  have bare : ∀ v : V, (∀ y, (∀ c : C, VRel c v y → VRel c (.ls h.length k 0 n n) y)) → cs = [] → ∀ y, VRel (cx ok pl w') v y → en = .returned y → ∃ p pl2 h2 ae2, HSim e ok pl2 h2 w' ∧ Keeps p pl w pl2 w' ∧ EndRel (cx ok pl2 w') ae2 en ∧ R ae2 h2 p := by
    intro v hle hc0 y hy hen
    subst hc0
    refine ⟨fun _ => false, pl, h ++ [.cells []], .ret (.ls h.length k 0 n n), cells_bare (hs.wext x), x.keeps hs, ?_, hr⟩
    rw [hen]
    exact hle y _ hy
  cases ae with
  | pan v => exact hq.elim
  | ret v =>
    cases en with
    | panicked ch => exact he.elim
    | outgrown => exact he.elim
    | returned y =>
      have he : VRel _ v y := he
      rcases hq with ⟨rfl, rfl, rfl⟩ | ⟨id, cap, rfl, hcap, hid⟩
      · refine bare .nils (fun y c hy => ?_) rfl y (by simpa only [VRel] using he) rfl
        simp only [VRel] at hy ⊢
        exact ⟨none, 0, hy, Nat.le_refl _, Nat.le_refl _, Nat.zero_le _, .inl rfl⟩
      · simp only [VRel] at he
        obtain ⟨a, cp, h1, h2, h3, h4, h5⟩ := he
        cases hp : pl' id with
        | none =>
          have hc0 : cs = [] := by
            rcases hs'.bare id _ hid hp with h | h
            · cases h
            · cases h; rfl
          rcases h5 with h5 | ⟨b, arr, el, fz, h6, _⟩
          · subst h5
            have hn : n = 0 := by omega
            subst hn
            refine ⟨fun _ => false, pl, h ++ [.cells cs], .ret (.ls h.length k 0 0 0), by rw [hc0]; exact cells_bare (hs.wext x), x.keeps hs, ?_, hr⟩
            show VRel _ _ _
            simp only [VRel]
            exact ⟨a, 0, h1, Nat.le_refl _, h3, h4, .inl rfl⟩
          · simp only [cx] at h6; rw [hp] at h6; cases h6
        | some b0 =>
          have hb1 : w.heap.size ≤ b0 := by
            rcases k'.loc id b0 hp with ⟨j, hj⟩ | hlt
            · cases hj
            · exact hlt
          have hb2 := hs'.lt id b0 hp
          obtain ⟨o, ho, hat⟩ := hs'.obj id b0 hp
          rw [hid] at ho; cases ho
          obtain ⟨arr, el, fz, g1, g2, g3, g4⟩ := hat
          have cxt : CExt (fun _ => false) (cx (fun b => ok b ∧ ∀ i, pl i ≠ some b) pl' w').data (cx ok (plNew pl h.length b0) w').data := by
            refine ⟨fun b hb hok => ⟨⟨hok.1.1, fun i hi => ?_⟩, rfl⟩, fun i b _ hi => by simp [C.data] at hi, fun b arr' el' fz' hb' => ⟨arr', fz', hb', rfl⟩⟩
            simp only [plNew] at hi
            split at hi
            · cases hi; exact hok.2 id hp
            · exact hok.1.2 i hi
          have hat2 : OAt (cx ok (plNew pl h.length b0) w') b0 (.cells cs) :=
            ⟨arr, el, fz, g1, g2, g3, VList.ofdata _ _ (VList.mono cxt _ _ (VList.todata _ _ hcs g4))⟩
          obtain ⟨s2, k2⟩ := hs.new x (.cells arr el) (.cells cs) hb1 hb2 hat2
          refine ⟨fun _ => false, plNew pl h.length b0, h ++ [.cells cs], .ret (.ls h.length k 0 n n), s2, k2, ?_, hr⟩
          show VRel _ _ _
          simp only [VRel]
          refine ⟨a, cp, h1, h3, h3, h4, ?_⟩
          rcases h5 with h5 | ⟨b, arr2, el2, fz2, h6, h7, h8, h9⟩
          · exact .inl h5
          · simp only [cx] at h6 h8
            rw [hp] at h6; cases h6
            exact .inr ⟨b0, arr2, el2, fz2, by simp [cx, plNew], h7, h8, h9⟩

/-- Such a row is data, where nobody writes on it. -/
theorem EvF.ev {k n : Nat} {cs : List V} {r : V} (hv : EvF e g args k n cs) (hn : n = 0 → cs = [] → VLe .nils r) (hr : ∀ h' : H, ∀ id cap : Nat, n ≤ cap → h'[id]? = some (.cells cs) → Reif e h' (.ls id k 0 n cap) r) (hnr : n = 0 → cs = [] → ∀ h' : H, Reif e h' .nils r) : Ev e g args r :=
  Ev.of_calls (ACalls.mono hv fun ae h' p hq => by
    cases ae with
    | pan v => exact hq
    | ret v =>
      rcases hq with ⟨rfl, h1, h2⟩ | ⟨id, cap, rfl, hc, hid⟩
      · exact hnr h1 h2 h'
      · exact hr h' id cap hc hid)

/-! ### Data told less exactly -/
theorem VLe.nils_is {x : Bool} {k : Nat} : VLe .nils (.is x k []) := fun c y h => by
  simp only [VRel] at h ⊢
  exact ⟨none, 0, h, Nat.le_refl _, Nat.zero_le _, fun _ => rfl, by simp⟩
theorem VLe.inexact {x : Bool} {k : Nat} {es : List V} : VLe (.is x k es) (.is false k es) := fun c y h => by
  simp only [VRel] at h ⊢
  obtain ⟨a, cp, h1, h2, h3, h4, h5⟩ := h
  exact ⟨a, cp, h1, h2, h3, (fun h => by cases h), h5⟩
theorem VElems.les {c : C} {k : Nat} : ∀ {es es' : List V} {b off : Nat}, es'.length = es.length → (∀ (i : Nat) v v', es[i]? = some v → es'[i]? = some v' → VLe v v') → VElems c k es b off → VElems c k es' b off
  | [], [], _, _, _, _, h => h
  | [], _ :: _, _, _, hl, _, _ => by simp at hl
  | _ :: _, [], _, _, hl, _, _ => by simp at hl
  | v :: vs, v' :: vs', b, off, hl, hv, h => by
    simp only [VElems] at h ⊢
    obtain ⟨⟨ev, h1, h2, h3⟩, h4⟩ := h
    exact ⟨⟨ev, h1, h2, hv 0 v v' rfl rfl c ev h3⟩, VElems.les (by simpa using hl) (fun i a b ha hb => hv (i + 1) a b (by simpa using ha) (by simpa using hb)) h4⟩
theorem VLe.is {x : Bool} {k : Nat} {es es' : List V} (hl : es'.length = es.length) (hv : ∀ (i : Nat) v v', es[i]? = some v → es'[i]? = some v' → VLe v v') : VLe (.is x k es) (.is x k es') := fun c y h => by
  simp only [VRel] at h ⊢
  obtain ⟨a, cp, h1, h2, h3, h4, h5⟩ := h
  refine ⟨a, cp, by rw [hl]; exact h1, by omega, h3, fun h => by rw [hl]; exact h4 h, ?_⟩
  rcases h5 with h5 | ⟨b, off, h5, h6⟩
  · exact .inl (by subst h5; exact List.length_eq_zero_iff.1 hl)
  · exact .inr ⟨b, off, h5, h6.les hl hv⟩
/-- The arguments of a function that only computes are told less exactly. -/
theorem Ev.les {args' : List V} {r : V} (hv : Ev e g args' r) (ha : VLes args args') : Ev e g args r :=
  fun ok w vs hs hl => hv ok w vs hs (ha _ _ hl)
theorem EvR.les {args' : List V} {S : V → Prop} (hv : EvR e g args' S) (ha : VLes args args') : EvR e g args S :=
  fun ok w vs hs hl => hv ok w vs hs (ha _ _ hl)
theorem EvF.les {args' : List V} {k n : Nat} {cs : List V} (hv : EvF e g args' k n cs) (ha : VLes args args') : EvF e g args k n cs :=
  ACalls.argsH ha (HLe.refl _) hv
end
end Go.Abs

set_option linter.unusedVariables false
namespace Go.Abs
open Go Go.RowKit
section
variable {e : E} {n : Nat} {r : Option Nat} {c : Code} {Q : XE → Fr → H → Prop} {f : Fr} {h : H}

/-- A nil slice may as well be an empty row of one's own. -/
theorem awp_bareAt (i k : Nat) (hi : f.t i = .nils) (hw : awp e n r c Q { f with t := fun j => if j = i then .ls h.length k 0 0 0 else f.t j } (h ++ [.cells []])) : awp e n r c Q f h :=
  awp_bare (awp_le (FLe.one i (by rw [hi]; exact VLe.nil_ls)) (HLe.refl _) hw)

/-- Is an object none of the first ones? -/
def from_ (k : Nat) : Nat → Bool := fun j => decide (k ≤ j)

theorem keepP_last {h0 : H} {cs : List V} : (keepP (from_ h0.length) 0 (h0 ++ [.cells cs]))[h0.length]? = some (.cells (V.drops (fun j => !from_ h0.length j) cs)) := by
  rw [keepP_get]
  simp [from_, O.drop]

theorem dropP_take {p : Nat → Bool} : ∀ (h : H) (k m : Nat), (∀ i, i < m → p (k + i) = false) → (dropP p k h).take m = (h.map (O.drop p)).take m
  | [], k, m, _ => by simp [dropP]
  | o :: h, k, 0, _ => by simp
  | o :: h, k, m + 1, hp => by
    have h0 := hp 0 (by omega)
    have ih := dropP_take h (k + 1) m (fun i hi => by have := hp (i + 1) (by omega); rwa [show k + (i + 1) = k + 1 + i by omega] at this)
    rw [Nat.add_zero] at h0
    simp only [dropP, h0, List.take_succ_cons, List.map_cons, ih, Bool.false_eq_true, if_false]

/-- The last object becomes data. -/
theorem awp_popAt {h0 : H} {o : O} (i : Nat) (v : V) (hd : ∀ j ∈ f.d, j < h0.length) (hs : (f.t i).drop (fun j => !from_ h0.length j) = f.t i) (hr : Reif e (keepP (from_ h0.length) 0 (h0 ++ [o])) (f.t i) v)
    (hw : awp e n r c Q { t := fun j => if j = i then v.drop (from_ h0.length) else ((f.t j).drop (from_ h0.length)).drop (from_ h0.length), d := f.d, k := fun j => f.k j || from_ h0.length j || from_ h0.length j } ((h0.map (O.drop (from_ h0.length))).map (O.drop (from_ h0.length)))) : awp e n r c Q f (h0 ++ [o]) := by
  refine awp_give (from_ h0.length) (fun j => if j = i then v else (f.t j).drop (from_ h0.length)) (fun j => ?_) (fun j hj => by simp [from_, hd j hj]) (awp_cut (.inr ⟨h0.length, hd, ?_⟩))
  · by_cases hj : j = i
    · subst hj; rw [if_pos rfl]; exact .inr ⟨hs, hr⟩
    · rw [if_neg hj]; exact .inl rfl
  · have e1 : ((dropP (from_ h0.length) 0 (h0 ++ [o])).map (O.drop fun i => decide (h0.length ≤ i))).take h0.length = (h0.map (O.drop (from_ h0.length))).map (O.drop (from_ h0.length)) := by
      rw [← List.map_take, dropP_take _ 0 h0.length (fun i hi => by simp [from_]; omega)]
      simp only [List.map_append, List.map_cons, List.map_nil]
      rw [List.take_append_of_le_length (by simp), List.take_of_length_le (by simp)]
      rfl
    rw [e1]
    refine awp_le (f' := { t := fun j => if j = i then v.drop (from_ h0.length) else ((f.t j).drop (from_ h0.length)).drop (from_ h0.length), d := f.d, k := fun j => f.k j || from_ h0.length j || from_ h0.length j }) ⟨fun j => ?_, rfl, rfl⟩ (HLe.refl _) hw
    by_cases hj : j = i
    · subst hj; simp only [Fr.drop, if_true]; exact VLe.refl _
    · simp only [Fr.drop, if_neg hj]; exact VLe.refl _
theorem keepP_at {h0 Y : H} {cs : List V} (j : Nat) (hj : Y[j]? = some (.cells cs)) : (keepP (from_ h0.length) 0 (h0 ++ Y))[h0.length + j]? = some (.cells (V.drops (fun j => !from_ h0.length j) cs)) := by
  rw [keepP_get, List.getElem?_append_right (by omega), Nat.add_sub_cancel_left, hj]
  simp [from_, O.drop]

/-- The last objects are let go, but what one value says becomes data. -/
theorem awp_popTo {h0 Y : H} (i : Nat) (v : V) (hd : ∀ j ∈ f.d, j < h0.length) (hs : (f.t i).drop (fun j => !from_ h0.length j) = f.t i) (hr : Reif e (keepP (from_ h0.length) 0 (h0 ++ Y)) (f.t i) v)
    (hw : awp e n r c Q { t := fun j => if j = i then v.drop (from_ h0.length) else ((f.t j).drop (from_ h0.length)).drop (from_ h0.length), d := f.d, k := fun j => f.k j || from_ h0.length j || from_ h0.length j } ((h0.map (O.drop (from_ h0.length))).map (O.drop (from_ h0.length)))) : awp e n r c Q f (h0 ++ Y) := by
  refine awp_give (from_ h0.length) (fun j => if j = i then v else (f.t j).drop (from_ h0.length)) (fun j => ?_) (fun j hj => by simp [from_, hd j hj]) (awp_cut (.inr ⟨h0.length, hd, ?_⟩))
  · by_cases hj : j = i
    · subst hj; rw [if_pos rfl]; exact .inr ⟨hs, hr⟩
    · rw [if_neg hj]; exact .inl rfl
  · have e1 : ((dropP (from_ h0.length) 0 (h0 ++ Y)).map (O.drop fun i => decide (h0.length ≤ i))).take h0.length = (h0.map (O.drop (from_ h0.length))).map (O.drop (from_ h0.length)) := by
      rw [← List.map_take, dropP_take _ 0 h0.length (fun i hi => by simp [from_]; omega)]
      simp only [List.map_append]
      rw [List.take_append_of_le_length (by simp), List.take_of_length_le (by simp)]
      rfl
    rw [e1]
    refine awp_le (f' := { t := fun j => if j = i then v.drop (from_ h0.length) else ((f.t j).drop (from_ h0.length)).drop (from_ h0.length), d := f.d, k := fun j => f.k j || from_ h0.length j || from_ h0.length j }) ⟨fun j => ?_, rfl, rfl⟩ (HLe.refl _) hw
    by_cases hj : j = i
    · subst hj; simp only [Fr.drop, if_true]; exact VLe.refl _
    · simp only [Fr.drop, if_neg hj]; exact VLe.refl _
/-- The last objects are let go. -/
theorem awp_cutTo {h0 Y : H} (hd : ∀ j ∈ f.d, j < h0.length)
    (hw : awp e n r c Q (f.drop (from_ h0.length)) (h0.map (O.drop (from_ h0.length)))) : awp e n r c Q f (h0 ++ Y) := by
  refine awp_cut (.inr ⟨h0.length, hd, ?_⟩)
  have e1 : ((h0 ++ Y).map (O.drop fun i => decide (h0.length ≤ i))).take h0.length = h0.map (O.drop (from_ h0.length)) := by
    simp only [List.map_append]
    rw [List.take_append_of_le_length (by simp), List.take_of_length_le (by simp)]
    rfl
  rw [e1]
  exact hw

/-- A heap none of whose objects refers to what is not there. -/
def Closed (h : H) : Prop := ∀ p : Nat → Bool, (∀ i, i < h.length → p i = false) → h.map (O.drop p) = h
theorem Closed.from_ {h : H} (hc : Closed h) : h.map (O.drop (from_ h.length)) = h := hc _ (fun i hi => by simp [Abs.from_, hi])
theorem Closed.one {h : H} (hc : Closed h) {j : Nat} (hj : h.length ≤ j) : h.map (O.drop (· == j)) = h := hc _ (fun i hi => by simp; omega)
theorem Closed.set {h : H} (hc : Closed h) {k : Nat} {o : O} (ho : ∀ p : Nat → Bool, (∀ i, i < h.length → p i = false) → o.drop p = o) : Closed (h.set k o) := fun p hp => by
  rw [List.length_set] at hp
  rw [List.map_set, hc p hp, ho p hp]
theorem ACalls.kp {g : FuncId} {args : List V} {R : AEnd → H → (Nat → Bool) → Prop} (p0 : Nat → Bool) (hc : ACalls e g args h fun ae h' p => (∀ i, p i = true → p0 i = true) ∧ R ae h' p0) : ACalls e g args h R :=
  fun ok pl w vs hs hl => (hc ok pl w vs hs hl).mono fun en w' ⟨p, pl', h', ae, h1, h2, h3, h4, h5⟩ => ⟨p0, pl', h', ae, h1, h2.weaken h4, h3, h5⟩
end
end Go.Abs

set_option linter.unusedVariables false
namespace Go.Abs
open Go Go.RowKit Go.ChangeShapes
section
variable {H : Type} {enc : TypeId × Value → H} {P : Program} {R : Nat} (M : Meas H P R)
/-- A law that only computes, and says true of whatever it is handed, where that is told to be no larger than what there is. -/
theorem law_contractG {fn : Func} {f : FuncId} {s : ChangeSpec} {shs : List Sh} (hl : laidOutB P = true) (hlen : shs.length = fn.params.size)
    (hok : ∀ (i : Nat) sh t, shs[i]? = some sh → fn.params[i]? = some t → sh.ok P t = true ∧ sh.fat P t = true) (hread : (fn.params.toList.all fun t => P.readableRec t && decide (t < P.types.size)) = true)
    (hres : ∃ tb, fn.resultTypes = #[tb] ∧ P.underlying tb = some .bool) (hvars : s.vars = [])
    (hspec : ∀ ds : List (DataW H), ds.length = shs.length → (s.fn H (ds ++ [])).results = [.lit (.bool true)] ∧ (s.fn H (ds ++ [])).args = ds ∧ (s.fn H (ds ++ [])).vars = [])
    (e : E) (heP : e.P = P)  (hev : ∀ us, Sh.Szs R shs us → Ev e f us (.bool true))
    (W : World) (base : Nat) (args : Array Value) (ds gs : List (DataW H)) (before : List MemPlace)
    (hval : ∀ (j : Nat) t v, fn.params[j]? = some t → args[j]? = some v → Value.okWide P W .any base t v)
    (hW : DataW.Whole enc P fn.params.toList s.vars false W args.toList ds gs before)
    (hwt : ∀ (i : Nat) d t, ds[i]? = some d → fn.params.toList[i]? = some t → M.L t d)
    (hgl : ∀ g v, e.gl g = some v → VRel (cw W) (.ip v) (.pointer (some ⟨g, 0, none⟩)))
    (hex : ∀ g p, e.gx g = some p → ∃ cs ty fz, W.heap[g]? = some (.cells cs ty fz) ∧ p cs) :
    Calls P f args W fun e W' => ∃ v, e = .returned v ∧ s.post enc P fn false true false false W args v W' := by
  have hW' := hW
  obtain ⟨p, q, hA, hV, rfl, hfz, hnd⟩ := hW
  rw [hvars] at hV
  obtain ⟨rfl, rfl⟩ := trodVars_none hV
  obtain ⟨us, k1, k2⟩ := trodAll_tookZ M shs fn.params.toList args.toList ds p (by simpa using hlen) (fun i sh t h1 h2 => hok i sh t h1 (by simpa using h2)) (fun i sh v h1 h2 => by
    have hi : i < fn.params.size := by have := (List.getElem?_eq_some_iff.1 h1).1; omega
    exact flat_of_okWide (hok i sh fn.params[i] h1 (by simp [hi])).1 (hval i fn.params[i] v (by simp [hi]) (by simpa using h2))) hA hwt
  subst heP
  have hs : HSim e (fun _ => True) (fun _ => none) [] W := ⟨fun _ _ => trivial, fun i b hi => (by cases hi), fun i b hi => (by cases hi), fun i j b hi => (by cases hi), fun i b hi => (by cases hi), fun i o ho => (by simp at ho), fun g v hg => hgl g v hg, fun g p hg => ⟨⟨trivial, fun i hi => (by cases hi)⟩, hex g p hg⟩⟩
  have hc := hev us k1 _ W args.toList hs k2
  rw [show args.toList.toArray = args from Array.toArray_toList] at hc
  refine hc.mono ?_
  rintro en W' ⟨x, rfl, hx, hv⟩
  simp only [VRel] at hv
  subst hv
  obtain ⟨tb, hr1, hr2⟩ := hres
  have hdl : ds.length = shs.length := by rw [trod_len hA, hlen]; simp
  obtain ⟨e1, e2, e3⟩ := hspec ds hdl
  refine ⟨_, rfl, ds, [], p ++ [], [], p, [], hW', ?_, ?_, ?_, hx.below.frame _, fun h => (by cases h)⟩
  · rw [e1, hr1]
    exact trodAll_mk1 ⟨1, by simp [DataW.trod, Value.cells, hr2]⟩
  · rw [e2]
    exact trodAll_stays hl hx.below fn.params.toList args.toList ds p hread (fun y hy => hA.lt y hy) hA
  · rw [e3, hvars]
    rfl

/-- A package variable of two numbers, told as a value. -/
theorem two_rel {w : World} {g : Nat} {a b : Int} {k : IntKind} {ty : TypeId} {fz : Nat × Nat} (h : w.heap[g]? = some (.cells #[.int k a, .int k b] ty fz)) : VRel (cw w) (.ip (.agg [.int k a, .int k b])) (.pointer (some ⟨g, 0, none⟩)) := by
  simp only [VRel, VList]
  refine ⟨g, 0, .agg #[.int k a, .int k b], rfl, fun j hj => ⟨⟨trivial, fun i hi => by cases hi⟩, ?_⟩, by simp [Value.cells], _, rfl, _, _, rfl, rfl, _, _, rfl, rfl, rfl⟩
  show w.cell? ⟨g, 0 + j, none⟩ = _
  unfold World.cell?
  simp only [h, Nat.zero_add]
  rfl
end
end Go.Abs

set_option linter.unusedVariables false
namespace Go.Abs
open Go Go.RowKit
section
variable {e : E} {n : Nat} {r : Option Nat} {o : Oper} {f : Fr} {h : H} {Kn : Fr → H → Prop} {Q : XE → Fr → H → Prop}
theorem eff_append_zero {x y : Operand} {t xt el : TypeId} {q re : TI} (ha : IsAppend e o x y t xt el q re) (hxc : (f.ev e x).sc) (hyc : (f.ev e y).sc)
    {ex : Bool} {k : Nat} {es : List V} (hx : (f.ev e x).sv = .is ex k es) (hst : srcTy e.P xt el (f.ev e y).sv = true) {cs : List V} (hy : srcEls h re.size (f.ev e y).sv = some (0, cs)) (hyf : srcFit re.size (f.ev e y).sv = true)
    (hk : Kn (f.put o.dst (.is ex k es)) h) : Eff e n r o f h Kn Q := by
  obtain ⟨⟨ts, hop, ht0, ht1⟩, hti, hkind, htie, hzf, hzl, hpos⟩ := ha
  refine Eff.of_AQ (v := .is ex k es) (AQ.of_value fun ok pl w ev hs hr => ?_) hk
  obtain ⟨i, d, z, hT⟩ := ti_some hti
  have hd := hT.slice hkind; subst hd
  obtain ⟨ie, de, ze, hE⟩ := ti_some htie
  obtain ⟨rx, ix, dx, zx, hX, hxi⟩ := src_ty hst
  have hxv := (hr x (by simp [hop, Op.operands, Call.operands])).sv hxc
  have hyv := (hr y (by simp [hop, Op.operands, Call.operands])).sv hyc
  obtain ⟨news, hn1, hn2, hn3, hn4⟩ := src_run hs hyv hy hyf
  have hnews : news = #[] := by
    have := hn3.length
    rw [hn4, Nat.zero_mul] at this
    exact Array.toList_eq_nil_iff.1 (List.length_eq_zero_iff.1 this)
  subst hnews
  rw [hx] at hxv
  have hxv0 := hxv
  simp only [VRel] at hxv
  obtain ⟨base, cp, hbase, hlen, hmax, hex, hpl⟩ := hxv
  have hrun := run_append_roomG (P := e.P) (w := w) (ty := o.type) ht0 ht1 hT hE hX hxi base es.length cp 0 (ev y) #[] (fun w' => hn1 w') (hn2 w (fun _ => rfl)) (by omega) (w' := w) (by
    cases base with
    | none => exact .inl ⟨rfl, rfl⟩
    | some a => exact .inr ⟨a, rfl, by simp [storeCells]⟩)
  refine ⟨ev x, ?_, hxv0⟩
  rw [append_exec hop, hbase]
  rw [Nat.add_zero] at hrun
  exact run_v hrun
/-- Two ways into one stretch of code. -/
theorem awp_via {r : Option Nat} {c : Code} (Pf : Fr → Prop) (h0 : H) (h1 : (∀ f', Pf f' → awp e n r c Q f' h0) → awp e n r c Q f h) (h2 : ∀ f', Pf f' → awp e n r c Q f' h0) : awp e n r c Q f h := h1 h2
end
end Go.Abs

set_option linter.unusedVariables false
namespace Go.Abs
open Go Go.RowKit
section
variable {e : E} {n : Nat} {r : Option Nat} {o : Oper} {f : Fr} {h : H} {Kn : Fr → H → Prop} {Q : XE → Fr → H → Prop}
theorem eff_assert_nili {x : Operand} {xt t : TypeId} {q : TI} (hop : o.op = .typeAssert x xt t true) (hq : ti e.P t = some q) (hxc : (f.ev e x).sc) (hx : (f.ev e x).sv = .nili)
    (hk : Kn (f.put o.dst (.tup [q.zero, .bool false])) h) : Eff e n r o f h Kn Q := by
  refine Eff.of_AQ (v := .tup [q.zero, .bool false]) (AQ.of_value fun ok pl w ev hs hr => ?_) hk
  obtain ⟨i, d, z, hT⟩ := ti_some hq
  have hxv := (hr x (by simp [hop, Op.operands])).sv hxc
  rw [hx] at hxv
  simp only [VRel] at hxv
  have hrun : (Instr.typeAssert (ev x) xt t true).run e.P w = .ok (.tuple #[z, .bool false]) w := by
    unfold Instr.typeAssert
    rw [hxv]
    cases d <;> simp [Sem.run_bind, hT.run_und, hT.run_zero, Result.andThen]
  refine ⟨.tuple #[z, .bool false], ?_, ?_⟩
  · have h5 : execOp ev o = (do pure (Next.value (← Instr.typeAssert (ev x) xt t true))) := by simp [execOp, hop]
    rw [h5]
    exact run_v hrun
  · simp only [VRel, VList]
    rw [hT.zv]
    exact ⟨#[z, .bool false], rfl, _, _, rfl, ofZero_rel _ z, _, _, rfl, rfl, rfl⟩
end
end Go.Abs

set_option linter.unusedVariables false
set_option linter.unusedSimpArgs false
namespace Go.Abs
open Go Go.RowKit
section
variable {e : E} {n : Nat} {r : Option Nat} {ops : Array Oper} {Q : XE → Fr → H → Prop} {ok : Nat → Prop} {pl0 : Nat → Option Nat} {w0 : World}

theorem SSim.unput {f : Fr} {h : H} {pl : Nat → Option Nat} {w : World} {a : Act} {d : Option Tmp} {v : Value} (s : SSim e n ok pl0 w0 f h pl w (a.put d v)) : SSim e n ok pl0 w0 (f.put d .any) h pl w a := by
  cases d with
  | none => exact s
  | some i =>
    refine ⟨s.hs, s.kp, ?_, fun j => ?_, s.dfr⟩
    · have := s.size
      simpa [Act.put] using this
    · by_cases hj : j = i
      · subst hj
        have : (f.put (some j) .any).t j = .any := by simp [Fr.put]
        rw [this]
        simp only [VRel]
      · have h1 : (f.put (some i) .any).t j = f.t j := by simp [Fr.put, hj]
        rw [h1]
        have h2 := s.val j
        simpa [Act.put, Array.getElem?_setIfInBounds_ne (Ne.symm hj)] using h2

theorem vcPlan_okP (hQ : ∀ (i : Nat) (o : Oper), ops[i]? = some o → ∀ v f h, Q (.pan v) f h → Q (.pan v) (f.put o.dst .any) h) (hpl : plainOps ops = true) : ∀ (p : Plan),
    (∀ (fuel : Nat) (listed : Array Bool) (f : Fr) (h : H), planOk e.P ops p fuel listed = true → vcPlan e n ops Q p f h → ∀ pl w a, SSim e n ok pl0 w0 f h pl w a → wpAnyIn (RF r) 0 e.P .any ops (APost e n ok pl0 w0 Q) fuel listed a w) ∧
    (∀ (fuel : Nat) (listed : Array Bool) (f : Fr) (h : H), planOk.planAlts e.P ops p fuel listed = true → vcPlan e n ops Q p f h → ∀ pl w a, SSim e n ok pl0 w0 f h pl w a →
      ∀ i ∈ p.heads, wpOpIn (RF r) 0 e.P ops (APost e n ok pl0 w0 Q) i (wpAnyIn (RF r) 0 e.P .any ops (APost e n ok pl0 w0 Q) fuel (listed.setIfInBounds i true)) a w)
  | .fin => by
    refine ⟨fun fuel listed f h hp hv pl w a s => ?_, fun fuel listed f h hp hv pl w a s i hi => (by simp [Plan.heads] at hi)⟩
    simp only [planOk, List.isEmpty_iff] at hp
    exact wpAnyIn_done hp ⟨pl, f, h, .normal, s, trivial, hv⟩ fuel
  | .take i p => by
    refine ⟨fun fuel listed f h hp hv pl w a s => ?_, fun fuel listed f h hp hv pl w a s i hi => (by simp [Plan.heads] at hi)⟩
    simp only [planOk] at hp
    split at hp
    · rename_i fuel o ho
      simp only [Bool.and_eq_true] at hp
      obtain ⟨⟨⟨h1, h2⟩, h3⟩, h4⟩ := hp
      obtain ⟨x, f', hy, s', hk⟩ := pure_yields ho h1 hv s
      refine wpAnyIn_first' h1 ho hpl ?_ fuel listed a w (Region.free_spec ho h3) (by simpa using h2) hy ((vcPlan_okP hQ hpl p).1 fuel _ f' h h4 hk pl w _ s')
      rintro c a w ⟨pl', f', h', xe, hs, hx, hq⟩
      cases xe <;> first | exact hx.elim | skip
      exact ⟨pl', f'.put o.dst .any, h', _, hs.unput, hx, hQ _ _ ho _ _ _ hq⟩
    · cases hp
  | .one i p => by
    refine ⟨fun fuel listed f h hp hv pl w a s => ?_, fun fuel listed f h hp hv pl w a s j hj => ?_⟩
    · simp only [planOk] at hp
      split at hp
      · rename_i fuel
        simp only [Bool.and_eq_true, beq_iff_eq] at hp
        refine ⟨fun h0 => (by rw [hp.1] at h0; cases h0), fun j hj => ?_⟩
        rw [hp.1] at hj
        simp only [List.mem_singleton] at hj
        subst hj
        exact vcOp_ok hv (fun f h pl w a s hk => (vcPlan_okP hQ hpl p).1 fuel _ f h hp.2 hk pl w a s) s
      · cases hp
    · simp only [planOk.planAlts] at hp
      simp only [Plan.heads, List.mem_singleton] at hj
      subst hj
      exact vcOp_ok hv (fun f h pl w a s hk => (vcPlan_okP hQ hpl p).1 fuel _ f h hp hk pl w a s) s
  | .alt i p q => by
    refine ⟨fun fuel listed f h hp hv pl w a s => ?_, fun fuel listed f h hp hv pl w a s j hj => ?_⟩
    · simp only [planOk] at hp
      split at hp
      · rename_i fuel
        simp only [Bool.and_eq_true, beq_iff_eq] at hp
        obtain ⟨⟨h1, h2⟩, h3⟩ := hp
        refine ⟨fun h0 => (by rw [h1] at h0; cases h0), fun j hj => ?_⟩
        rw [h1] at hj
        rcases List.mem_cons.1 hj with rfl | hj
        · exact vcOp_ok hv.1 (fun f h pl w a s hk => (vcPlan_okP hQ hpl p).1 fuel _ f h h2 hk pl w a s) s
        · exact (vcPlan_okP hQ hpl q).2 fuel listed f h h3 hv.2 pl w a s j hj
      · cases hp
    · simp only [planOk.planAlts, Bool.and_eq_true] at hp
      rcases List.mem_cons.1 hj with rfl | hj
      · exact vcOp_ok hv.1 (fun f h pl w a s hk => (vcPlan_okP hQ hpl p).1 fuel _ f h hp.1 hk pl w a s) s
      · exact (vcPlan_okP hQ hpl q).2 fuel listed f h hp.2 hv.2 pl w a s j hj

/-- Such a region, which may end in a panic; some temporaries are told then. -/
def onlyP (R : Fr → H → Prop) (ks : List Nat) (K : V → List Nat → (Nat → Bool) → List V → H → Prop) : XE → Fr → H → Prop
  | .normal => R
  | .pan v => fun f h => K v f.d f.k (ks.map f.t) h
  | _ => fun _ _ => False

/-- No operation sets one of these. -/
def noSet (ops : Array Oper) (ks : List Nat) : Bool := ops.all fun o => ks.all fun i => match o.dst with | some j => i != j | none => true

theorem noSet_put {ks : List Nat} (hn : noSet ops ks = true) {i : Nat} {o : Oper} (hi : ops[i]? = some o) (f : Fr) : ks.map (f.put o.dst .any).t = ks.map f.t := by
  unfold noSet at hn
  rw [Array.all_eq_true] at hn
  obtain ⟨hl, rfl⟩ := Array.getElem?_eq_some_iff.1 hi
  have := hn i hl
  cases hd : ops[i].dst with
  | none => rfl
  | some j =>
    refine List.map_congr_left fun k hk => ?_
    have h1 := List.all_eq_true.1 this k hk
    rw [hd] at h1
    have h1 : k ≠ j := by simpa using h1
    simp [Fr.put, h1]

theorem awp_planP (hm : e.P.follows .mixedOrders = true) {id : Nat} (p : Plan) (R : Fr → H → Prop) (ks : List Nat) (K : V → List Nat → (Nat → Bool) → List V → H → Prop) {f : Fr} {h : H} (hp : planOk e.P ops p ops.size (Array.replicate ops.size false) = true) (hpl : (plainOps ops && noSet ops ks) = true)
    (hv : vcPlan e n ops (onlyP R ks K) p f h) (hk : ∀ f h, R f h → Q .normal f h) (hpan : ∀ v f' h', K v f'.d f'.k (ks.map f'.t) h' → Q (.pan v) f' h') : awp e n r (.region id ops true) Q f h := by
  intro ok pl0 w0 pl w a s
  rw [Bool.and_eq_true] at hpl
  have x : WExt w { w with drawn := w.drawn + 1 } := WExt.drew w
  have hQ : ∀ (i : Nat) (o : Oper), ops[i]? = some o → ∀ v f1 h1, onlyP R ks K (.pan v) f1 h1 → onlyP R ks K (.pan v) (f1.put o.dst .any) h1 := by
    intro i o hi v f1 h1 h2
    show K v (f1.put o.dst .any).d (f1.put o.dst .any).k (ks.map (f1.put o.dst .any).t) h1
    rw [noSet_put hpl.2 hi]
    cases o.dst <;> exact h2
  have := (vcPlan_okP (e := e) (n := n) (r := r) (ops := ops) (Q := onlyP R ks K) (ok := ok) (pl0 := pl0) (w0 := w0) hQ hpl.1 p).1 ops.size _ f h hp hv pl _ a (s.next0 (s.hs.wext x) (x.keeps s.hs))
  refine wpIn_mono (wpIn_region_any hm this) ?_
  rintro ex a' w' ⟨pl', f', h', xe, s', hx, hq⟩
  cases xe <;> first
    | exact ⟨pl', f', h', _, s', hx, hk _ _ hq⟩
    | exact ⟨pl', f', h', _, s', hx, hpan _ _ _ hq⟩
    | exact hq.elim

theorem onlyP_normal {R : Fr → H → Prop} {ks : List Nat} {K : V → List Nat → (Nat → Bool) → List V → H → Prop} : onlyP R ks K .normal = R := rfl
theorem onlyP_pan {R : Fr → H → Prop} {ks : List Nat} {K : V → List Nat → (Nat → Bool) → List V → H → Prop} {v : V} {f : Fr} {h : H} : onlyP R ks K (.pan v) f h = K v f.d f.k (ks.map f.t) h := rfl
end
end Go.Abs

set_option linter.unusedVariables false
set_option linter.unusedSimpArgs false
namespace Go.Abs
open Go Go.RowKit

section
variable {e : E} {n : Nat} {r : Option Nat} {ops : Array Oper} {Q : XE → Fr → H → Prop} {ok : Nat → Prop} {pl0 : Nat → Option Nat} {w0 : World} {h : H}

/-! ### Orders in which one operation is the last -/
def isAlloc (o : Oper) : Bool := match o.op with | .alloc _ => true | _ => false
/-- What it yields; a new object is hidden. -/
def LYield (e : E) (n : Nat) (ops : Array Oper) (h : H) (o : Oper) (v : V) (f : Fr) : Prop :=
  (isAlloc o = true ∧ o.guard = none ∧ dstOk n o.dst = true ∧ v = .any) ∨ (isAlloc o = false ∧ AYield e n ops h o v f)
theorem LYield.put {o : Oper} {v : V} {f : Fr} (hy : LYield e n ops h o v f) {dst : Option Tmp} {u : V} (hd : ∀ d, dst = some d → d ∉ o.looksAt ops) : LYield e n ops h o v (f.put dst u) :=
  hy.imp id fun h => ⟨h.1, h.2.put hd⟩
theorem LYield.unput {o : Oper} {v : V} {f : Fr} {dst : Option Tmp} {u : V} (hy : LYield e n ops h o v (f.put dst u)) (hd : ∀ d, dst = some d → d ∉ o.looksAt ops) : LYield e n ops h o v f :=
  hy.imp id fun h => ⟨h.1, h.2.unput hd⟩
def aqOpL (e : E) (n : Nat) (ops : Array Oper) (h : H) (i : Nat) (Kn : Fr → Prop) (f : Fr) : Prop :=
  match ops[i]? with
  | none => Kn f
  | some o => ∃ v, LYield e n ops h o v f ∧ Kn (f.put o.dst v)
theorem aqOpL_mono {i : Nat} {f : Fr} {K K' : Fr → Prop} (hh : ∀ f, K f → K' f) (hq : aqOpL e n ops h i K f) : aqOpL e n ops h i K' f := by
  unfold aqOpL at *
  split
  · exact hh _ (by simpa [*] using hq)
  · rename_i o ho
    simp only [ho] at hq
    obtain ⟨v, h1, h2⟩ := hq
    exact ⟨v, h1, hh _ h2⟩
theorem aqOpL_put {j : Nat} {oi oj : Oper} {v : V} (hj : ops[j]? = some oj) (hap : oi.apart ops oj = true) {K : Fr → Prop} {f : Fr}
    (hy : LYield e n ops h oi v f) (hq : aqOpL e n ops h j K (f.put oi.dst v)) :
    aqOpL e n ops h j (fun f' => LYield e n ops h oi v f' ∧ K (f'.put oi.dst v)) f := by
  obtain ⟨h1, h2, h3⟩ := Oper.apart_spec hap
  unfold aqOpL at *
  simp only [hj] at *
  obtain ⟨u, hu, hn⟩ := hq
  exact ⟨u, hu.unput h1, hy.put h3, by rw [← Fr.put_comm f v u h2]; exact hn⟩
/-- The walk in the text's order. -/
def wpQuietL (e : E) (n : Nat) (ops : Array Oper) (h : H) (Q : Fr → Prop) : List Oper → Fr → Prop
  | [], f => Q f
  | o :: rest, f => ∃ v, LYield e n ops h o v f ∧ wpQuietL e n ops h Q rest (f.put o.dst v)
def wpAnyL (e : E) (n : Nat) (ops : Array Oper) (h : H) (last : Nat) (Q : Fr → Prop) : Nat → Array Bool → Fr → Prop
  | 0, listed, f => Region.ready .any ops listed = [last] ∧ Q f
  | fuel + 1, listed, f => Region.ready .any ops listed ≠ [] ∧ (Region.ready .any ops listed = [last] → Q f) ∧
    ∀ i ∈ Region.ready .any ops listed, i ≠ last → aqOpL e n ops h i (wpAnyL e n ops h last Q fuel (listed.setIfInBounds i true)) f

theorem wpAnyL_first {last : Nat} {Q : Fr → Prop} {i : Nat} {oi : Oper} {v : V} (hi : ops[i]? = some oi) (hil : i ≠ last) :
    ∀ (fuel : Nat) (listed : Array Bool) (f : Fr),
      (∀ j oj, ops[j]? = some oj → j ≠ i → listed.getD j true = false → (∀ e ∈ oj.after, Region.binds .any e = true → e.on ≠ i) → oi.apart ops oj = true) →
      i ∈ Region.ready .any ops listed → LYield e n ops h oi v f →
      wpAnyL e n ops h last Q fuel (listed.setIfInBounds i true) (f.put oi.dst v) → wpAnyL e n ops h last Q (fuel + 1) listed f := by
  have own : ∀ {K : Fr → Prop} {f : Fr}, LYield e n ops h oi v f → K (f.put oi.dst v) → aqOpL e n ops h i K f := by
    intro K f hy hk
    unfold aqOpL
    rw [hi]
    exact ⟨v, hy, hk⟩
  have one : ∀ {listed : Array Bool} {R : Prop}, i ∈ Region.ready .any ops listed → Region.ready .any ops listed = [last] → R := by
    intro listed R hr h
    rw [h] at hr
    exact absurd (by simpa using hr) hil
  intro fuel
  induction fuel with
  | zero =>
    intro listed f _ hr hy H
    refine ⟨fun h => (by rw [h] at hr; cases hr), fun h => one hr h, fun j hj hjl => ?_⟩
    by_cases hji : j = i
    · subst hji; exact own hy H
    · have := ready_mono hj hji
      rw [H.1] at this
      exact absurd (by simpa using this) hjl
  | succ fuel ih =>
    intro listed f hfree hr hy H
    refine ⟨fun h => (by rw [h] at hr; cases hr), fun h => one hr h, fun j hj hjl => ?_⟩
    by_cases hji : j = i
    · subst hji; exact own hy H
    · have h1 := H.2.2 j (ready_mono hj hji) hjl
      obtain ⟨hjun, oj, hoj, hall⟩ := mem_ready.1 hj
      have hnot : ∀ e ∈ oj.after, Region.binds .any e = true → e.on ≠ i := fun e he hb heq => by
        have h1 := hall e he hb
        have h0 := (mem_ready.1 hr).1
        rw [heq] at h1
        rcases Nat.lt_or_ge i listed.size with h' | h'
        · simp [h'] at h0 h1; rw [h0] at h1; cases h1
        · simp [Array.getElem?_eq_none h'] at h1
      have h2 := aqOpL_put hoj (hfree j oj hoj hji hjun hnot) hy h1
      have hfree' : ∀ k ok, ops[k]? = some ok → k ≠ i → (listed.setIfInBounds j true).getD k true = false →
          (∀ e ∈ ok.after, Region.binds .any e = true → e.on ≠ i) → oi.apart ops ok = true := fun k ok hk hki hun hno => by
        refine hfree k ok hk hki ?_ hno
        by_cases hjk : j = k
        · subst hjk; exact hjun
        · rw [getD_set_ne true hjk] at hun; exact hun
      refine aqOpL_mono (fun a' h3 => ih (listed.setIfInBounds j true) a' hfree' (ready_mono hr (Ne.symm hji)) h3.1 ?_) h2
      rw [Array.setIfInBounds_comm _ _ hji]
      exact h3.2

def lexFromL (ops : Array Oper) (last : Nat) : Nat → Nat → Array Bool → Bool
  | 0, _, listed => Region.ready .any ops listed == [last]
  | fuel + 1, k, listed => (Region.ready .any ops listed).contains k && k != last && Region.free .any ops listed k && lexFromL ops last fuel (k + 1) (listed.setIfInBounds k true)

theorem wpAnyL_lex {last : Nat} {Q : Fr → Prop} : ∀ (l : List Oper) (k : Nat) (listed : Array Bool) (f : Fr), (∀ j, j < l.length → l[j]? = ops[k + j]?) →
    lexFromL ops last l.length k listed = true → wpQuietL e n ops h Q l f → wpAnyL e n ops h last Q l.length listed f
  | [], _, _, _, _, hB, h => ⟨by simpa [lexFromL] using hB, h⟩
  | o :: l, k, listed, f, hl, hB, hh => by
    have h0 : ops[k]? = some o := by simpa using (hl 0 (by simp)).symm
    simp only [List.length_cons, lexFromL, Bool.and_eq_true] at hB
    obtain ⟨⟨⟨hr, hne⟩, hf⟩, hB'⟩ := hB
    obtain ⟨v, hy, hK⟩ := hh
    exact wpAnyL_first h0 (by simpa using hne) l.length listed f (Region.free_spec h0 hf) (by simpa using hr) hy
      (wpAnyL_lex l (k + 1) _ _ (fun j hj => by have := hl (j + 1) (by simpa using hj); simpa [Nat.add_assoc, Nat.add_comm 1 j] using this) hB' hK)

/-! ### The last one is the last -/
/-- What is listed is listed with all that it waits for. -/
def Clos (ops : Array Oper) (listed : Array Bool) : Prop := ∀ i o, ops[i]? = some o → listed.getD i false = true → ∀ e ∈ o.after, Region.binds .any e = true → listed.getD e.on false = true
def lateB (ops : Array Oper) : Bool := (List.range (ops.size - 1)).all fun i => (List.range ops.size).any fun j => decide (i < j) && match ops[j]? with
  | some o => o.after.any fun e => Region.binds .any e && e.on == i
  | none => false

theorem late_all (hB : lateB ops = true) {listed : Array Bool} (hc : Clos ops listed) (hr : ops.size - 1 ∈ Region.ready .any ops listed) : ∀ (k i : Nat), k = ops.size - i → i < ops.size - 1 → listed.getD i false = true := by
  intro k
  induction k using Nat.strongRecOn with
  | _ k ih =>
    intro i hk hi
    have h1 := List.all_eq_true.1 hB i (by simpa using hi)
    obtain ⟨j, hj, h2⟩ := List.any_eq_true.1 h1
    simp only [List.mem_range] at hj
    rw [Bool.and_eq_true, decide_eq_true_eq] at h2
    obtain ⟨hij, h2⟩ := h2
    split at h2
    · rename_i o ho
      rw [Array.any_eq_true] at h2
      obtain ⟨q, hq, h3⟩ := h2
      rw [Bool.and_eq_true, beq_iff_eq] at h3
      have hmem : o.after[q] ∈ o.after := Array.getElem_mem hq
      rw [← h3.2]
      by_cases hjl : j = ops.size - 1
      · obtain ⟨_, o', ho', hall⟩ := mem_ready.1 hr
        rw [← hjl, ho] at ho'
        cases ho'
        exact hall _ hmem h3.1
      · exact hc j o ho (ih (ops.size - j) (by omega) j rfl (by omega)) _ hmem h3.1
    · cases h2

theorem Clos.set {listed : Array Bool} (hc : Clos ops listed) {i : Nat} (hi : i ∈ Region.ready .any ops listed) : Clos ops (listed.setIfInBounds i true) := by
  intro j o ho hl e he hb
  refine getD_set_true ?_
  by_cases hji : j = i
  · subst hji
    obtain ⟨_, o', ho', hall⟩ := mem_ready.1 hi
    rw [ho] at ho'
    cases ho'
    exact hall e he hb
  · rw [getD_set_ne false (Ne.symm hji)] at hl
    exact hc j o ho hl e he hb

theorem Clos.none {m : Nat} : Clos ops (Array.replicate m false) := by
  intro i o _ hl
  exfalso
  rcases Nat.lt_or_ge i m with h | h
  · simp [h] at hl
  · simp [h] at hl

theorem late_one (hB : lateB ops = true) {listed : Array Bool} (hc : Clos ops listed) (hr : ops.size - 1 ∈ Region.ready .any ops listed) : Region.ready .any ops listed = [ops.size - 1] := by
  have hall : ∀ j ∈ Region.ready .any ops listed, j = ops.size - 1 := by
    intro j hj
    obtain ⟨h0, o, ho, _⟩ := mem_ready.1 hj
    have hlt := (Array.getElem?_eq_some_iff.1 ho).1
    apply Classical.byContradiction
    intro hne
    have := late_all hB hc hr _ j rfl (by omega)
    rcases Nat.lt_or_ge j listed.size with h' | h'
    · simp [h'] at h0 this; rw [h0] at this; cases this
    · simp [Array.getElem?_eq_none h'] at this
  have hnd : (Region.ready .any ops listed).Nodup := by
    unfold Region.ready
    exact List.Pairwise.filter _ List.nodup_range
  match hm : Region.ready .any ops listed with
  | [] => rw [hm] at hr; cases hr
  | [x] => rw [hall x (by rw [hm]; simp)]
  | x :: y :: l =>
    exfalso
    rw [hm] at hnd
    have h1 := hall x (by rw [hm]; simp)
    have h2 := hall y (by rw [hm]; simp)
    simp [h1, h2] at hnd

/-! ### A place that a new object takes is hidden till the end -/
theorem HSim.recx {ok ok' : Nat → Prop} {pl pl' : Nat → Option Nat} {h h' : H} {w w' : World} (hs : HSim e ok pl h w) (x : CExt (fun _ => false) (cx ok pl w) (cx ok' pl' w'))
    (fresh : ∀ b, w'.heap.size ≤ b → ok' b) (lt : ∀ i b, pl' i = some b → b < w'.heap.size) (okl : ∀ i b, pl' i = some b → ok' b) (inj : ∀ i j b, pl' i = some b → pl' j = some b → i = j)
    (obj : ∀ i b, pl' i = some b → ∃ o, h'[i]? = some o ∧ OAt (cx ok' pl' w') b o) (bare : ∀ i o, h'[i]? = some o → pl' i = none → o = .dead ∨ o = .cells []) : HSim e ok' pl' h' w' where
  fresh := fresh
  lt := lt
  okl := okl
  inj := inj
  obj := obj
  bare := bare
  glob g v hg := VRel.mono x _ _ (hs.glob g v hg)
  exa g cs hg := by
    obtain ⟨h1, cs', ty, fz, h2, h3⟩ := hs.exa g cs hg
    have := x.dat g (lt_of_heap h2) h1
    exact ⟨this.1, cs', ty, fz, this.2.trans h2, h3⟩

/-- So it stands while the new object is hidden: block b, in which it lies; all the rest is told without it. -/
structure Hid (e : E) (n : Nat) (ok : Nat → Prop) (pl0 : Nat → Option Nat) (w0 : World) (f : Fr) (h : H) (pl : Nat → Option Nat) (w : World) (a : Act) (d : Tmp) (cs : List V) (b : Nat) : Prop where
  s : SSim e n (fun x => ok x ∧ x ≠ b) pl0 w0 f h pl w a
  ptr : a.tmps.getD d undef = .pointer (some ⟨b, 0, none⟩)
  ob : OAt (cx ok (plNew pl h.length b) w) b (.cells cs)
  ge : w0.heap.size ≤ b
  lt : b < w.heap.size
  okb : ok b
  npl : ∀ i, pl i ≠ some b
  dn : d < n

theorem Hid.cext {f : Fr} {pl : Nat → Option Nat} {w : World} {a : Act} {d : Tmp} {cs : List V} {b : Nat} (k : Hid e n ok pl0 w0 f h pl w a d cs b) {w' : World} (x : WExt w w') :
    CExt (fun _ => false) (cx (fun x => ok x ∧ x ≠ b) pl w) (cx ok (plNew pl h.length b) w') := by
  refine ⟨fun b' hb' hok => ⟨⟨hok.1.1, fun i hi => ?_⟩, x.same b' hb'⟩, fun i b' _ hi => ?_, fun b' arr' el' fz hb' => ⟨arr', fz, (x.same b' (lt_of_heap hb')).trans hb', rfl⟩⟩
  · simp only [plNew] at hi
    split at hi
    · cases hi; exact hok.1.2 rfl
    · exact hok.2 i hi
  · have := k.s.hs.pl_lt hi
    simp only [cx, plNew]; rw [if_neg (by omega)]; exact hi

/-- It is told again. -/
theorem Hid.show {f : Fr} {pl : Nat → Option Nat} {w : World} {a : Act} {d : Tmp} {cs : List V} {b : Nat} (k : Hid e n ok pl0 w0 f h pl w a d cs b) :
    SSim e n ok pl0 w0 (f.put (some d) (.lp h.length 0)) (h ++ [.cells cs]) (plNew pl h.length b) w a := by
  have x := k.cext (WExt.refl w)
  have hs := k.s.hs
  refine ⟨hs.recx x (fun b' hb' => (hs.fresh b' hb').1) ?_ ?_ ?_ ?_ ?_, ?_, k.s.size, ?_, ?_⟩
  · intro i b' hi
    simp only [plNew] at hi
    split at hi
    · cases hi; exact k.lt
    · exact hs.lt i b' hi
  · intro i b' hi
    simp only [plNew] at hi
    split at hi
    · cases hi; exact k.okb
    · exact (hs.okl i b' hi).1
  · intro i j b' hi hj
    simp only [plNew] at hi hj
    split at hi <;> split at hj
    · omega
    · cases hi; exact absurd hj (k.npl j)
    · cases hj; exact absurd hi (k.npl i)
    · exact hs.inj i j b' hi hj
  · intro i b' hi
    by_cases hil : i = h.length
    · subst hil
      have : b' = b := by simpa [plNew] using hi.symm
      subst this
      exact ⟨_, by simp, k.ob⟩
    · have hi' : pl i = some b' := by simpa [plNew, hil] using hi
      obtain ⟨o, h1, h2⟩ := hs.obj i b' hi'
      exact ⟨o, by rw [List.getElem?_append_left (hs.pl_lt hi')]; exact h1, OAt.mono x rfl h2⟩
  · intro i o' ho' hi
    simp only [plNew] at hi
    split at hi
    · cases hi
    · rename_i hil
      have hlt : i < h.length := by
        have := (List.getElem?_eq_some_iff.1 ho').1
        simp at this; omega
      rw [List.getElem?_append_left hlt] at ho'
      exact hs.bare i o' ho' hi
  · have kp := k.s.kp
    refine ⟨kp.os, kp.tape, kp.output, kp.size, fun b' hb' hn => kp.same b' hb' hn, fun i b' hi => ?_, fun i b' hp hi => ?_, kp.row⟩
    · simp only [plNew] at hi
      split at hi
      · cases hi; exact .inr k.ge
      · exact kp.loc i b' hi
    · have h1 := kp.keep i b' (by cases hd : f.k i <;> first | rfl | (exact absurd hd (by simpa [Fr.put] using hp))) hi
      have := hs.pl_lt h1
      simp only [plNew]; rw [if_neg (by omega)]; exact h1
  · intro i
    by_cases hi : i = d
    · subst hi
      have : (f.put (some i) (V.lp h.length 0)).t i = .lp h.length 0 := by simp [Fr.put]
      rw [this, k.ptr]
      simp only [VRel]
      exact ⟨b, by simp [cx, plNew], rfl⟩
    · have : (f.put (some d) (V.lp h.length 0)).t i = f.t i := by simp [Fr.put, hi]
      rw [this]
      exact VRel.mono x _ _ (k.s.val i)
  · exact DRel.mono (fun i b' hi => x.pl i b' rfl hi) k.s.dfr

/-! ### The region -/
theorem AQ.wpIn {o : Oper} {f : Fr} {v : V} {pl : Nat → Option Nat} {w : World} {a : Act} (hq : AQ e o (f.ev e) h v) (s : SSim e n ok pl0 w0 f h pl w a) {K' : Act → World → Prop} {Q' : Exit → Act → World → Prop}
    (hk : ∀ x w', WExt w w' → VRel (cx ok pl w') v x → K' (a.put o.dst x) w') : o.wpIn (RF r) 0 e.P a w K' Q' := by
  have := hq ok pl w a.eval s.hs s.evs
  refine ⟨fun g _ => RF_fn r g, ?_⟩
  have hnd : o.semAt (RF r).round a.eval = execOp a.eval o := by
    rw [RF_round]
    refine Oper.semAt_eq r a.eval o fun c hc => ?_
    unfold execOp at this
    rw [hc] at this
    simp only [Sem.run_bind] at this
    revert this
    cases (resolve a.eval c o.type).run e.P w <;> simp [YieldsTo, Result.andThen]
  rw [hnd]
  revert this
  cases (execOp a.eval o).run e.P w with
  | halt x w' => simp [YieldsTo]
  | ok nx w' =>
    cases nx <;> simp only [YieldsTo, Oper.uponIn] <;> try (intro hf; exact hf.elim)
    case value x =>
      rintro ⟨hx, hv⟩
      exact hk _ _ hx hv
    case skip =>
      rintro ⟨hx, hv⟩
      exact hk _ _ hx hv
    case enter g args =>
      intro hc
      refine ⟨fun hd' => (by rw [RF_depth] at hd'; cases hd'), CallsIn.ofCalls (hc.mono ?_)⟩
      rintro en w'' ⟨x, rfl, hx, hv⟩
      exact hk _ _ hx hv

/-- The operation that makes the new object. -/
structure AlOk (P : Program) (n : Nat) (ops : Array Oper) (ia : Nat) (d : Tmp) (q : TI) : Prop where
  op : ∃ o t, ops[ia]? = some o ∧ o.op = .alloc t ∧ o.guard = none ∧ o.dst = some d ∧ ti P t = some q
  fit : q.zero.fit = true
  ne : ia ≠ ops.size - 1
  dn : d < n
  oth : ∀ j o, ops[j]? = some o → j ≠ ia → isAlloc o = false ∧ o.dst ≠ some d

def LSt (e : E) (n : Nat) (ok : Nat → Prop) (pl0 : Nat → Option Nat) (w0 : World) (h : H) (ia : Nat) (d : Tmp) (q : TI) (listed : Array Bool) (f : Fr) (pl : Nat → Option Nat) (w : World) (a : Act) : Prop :=
  (listed.getD ia false = false ∧ SSim e n ok pl0 w0 f h pl w a) ∨ (listed.getD ia false = true ∧ ∃ b, Hid e n ok pl0 w0 f h pl w a d q.zero.vc b)

theorem LSt.quiet {ia : Nat} {d : Tmp} {q : TI} (ha : AlOk e.P n ops ia d q) {listed : Array Bool} {f : Fr} {pl : Nat → Option Nat} {w : World} {a : Act} (k : LSt e n ok pl0 w0 h ia d q listed f pl w a)
    {i : Nat} {o : Oper} (ho : ops[i]? = some o) (hi : i ≠ ia) {v : V} (hy : AYield e n ops h o v f) {K' : Act → World → Prop} {Q' : Exit → Act → World → Prop}
    (hk : ∀ a' w', LSt e n ok pl0 w0 h ia d q (listed.setIfInBounds i true) (f.put o.dst v) pl w' a' → K' a' w') : wpOpIn (RF r) 0 e.P ops Q' i K' a w := by
  obtain ⟨hd, g, v', hg, hv, rfl⟩ := hy
  have hod := (ha.oth i o ho hi).2
  have hli : (listed.setIfInBounds i true).getD ia false = listed.getD ia false := getD_set_ne false hi
  unfold wpOpIn
  rw [ho]
  dsimp only
  rcases k with ⟨hl, s⟩ | ⟨hl, b, k⟩
  · have hw := gd_ok s.val hg
    cases g with
    | true =>
      rw [if_pos hw]
      refine (hv rfl).wpIn s fun x w' hx hr => hk _ _ (.inl ⟨hli.trans hl, (s.next0 (s.hs.wext hx) (hx.keeps s.hs)).put hd hr⟩)
    | false =>
      rw [if_neg (by rw [hw]; simp)]
      exact ⟨fun g _ => RF_fn r g, hk _ _ (.inl ⟨hli.trans hl, s.put hd (guard_rel (fun hf => by cases hf) (fun _ => rfl))⟩)⟩
  · have hw := gd_ok k.s.val hg
    have nx : ∀ x w', WExt w w' → VRel (cx (fun x => ok x ∧ x ≠ b) pl w') (V.guard g v') x → LSt e n ok pl0 w0 h ia d q (listed.setIfInBounds i true) (f.put o.dst (V.guard g v')) pl w' (a.put o.dst x) := by
      intro x w' hx hr
      refine .inr ⟨hli.trans hl, b, ⟨(k.s.next0 (k.s.hs.wext hx) (hx.keeps k.s.hs)).put hd hr, ?_, ?_, k.ge, Nat.lt_of_lt_of_le k.lt hx.size, k.okb, k.npl, k.dn⟩⟩
      · have := k.ptr
        cases hdst : o.dst with
        | none => exact this
        | some j =>
          have hjd : j ≠ d := fun hh => hod (by rw [hdst, hh])
          simpa [Act.put, Array.getElem?_setIfInBounds_ne hjd] using this
      · have x2 : CExt (fun _ => false) (cx ok (plNew pl h.length b) w) (cx ok (plNew pl h.length b) w') :=
          ⟨fun b' hb' hok => ⟨hok, hx.same b' hb'⟩, fun i b' _ hi => hi, fun b' arr' el' fz hb' => ⟨arr', fz, (hx.same b' (lt_of_heap hb')).trans hb', rfl⟩⟩
        exact OAt.mono x2 (hx.same b k.lt) k.ob
    cases g with
    | true =>
      rw [if_pos hw]
      exact (hv rfl).wpIn k.s fun x w' hx hr => hk _ _ (nx x w' hx hr)
    | false =>
      rw [if_neg (by rw [hw]; simp)]
      exact ⟨fun g _ => RF_fn r g, hk _ _ (nx _ _ (WExt.refl _) (guard_rel (fun hf => by cases hf) (fun _ => rfl)))⟩

theorem LSt.alloc {ia : Nat} {d : Tmp} {q : TI} (ha : AlOk e.P n ops ia d q) {listed : Array Bool} (hsz : ia < listed.size) {f : Fr} {pl : Nat → Option Nat} {w : World} {a : Act} (k : LSt e n ok pl0 w0 h ia d q listed f pl w a)
    (hun : listed.getD ia true = false) {K' : Act → World → Prop} {Q' : Exit → Act → World → Prop}
    (hk : ∀ a' w', LSt e n ok pl0 w0 h ia d q (listed.setIfInBounds ia true) (f.put (some d) .any) pl w' a' → K' a' w') : wpOpIn (RF r) 0 e.P ops Q' ia K' a w := by
  obtain ⟨o, t, ho, hop, hg, hdst, hq⟩ := ha.op
  have hl0 : listed.getD ia false = false := by
    simp only [Array.getD_eq_getD_getElem?, Array.getElem?_eq_getElem hsz, Option.getD_some] at hun ⊢
    exact hun
  have hl1 : (listed.setIfInBounds ia true).getD ia false = true := by
    simp [hsz]
  rcases k with ⟨_, s⟩ | ⟨hl, _⟩
  · unfold wpOpIn
    rw [ho]
    dsimp only
    have hgd : gd ops f o = some true := by unfold gd; rw [hg]
    rw [if_pos (gd_ok s.val hgd)]
    obtain ⟨i, d', z, hT⟩ := ti_some hq
    have hf := ha.fit
    have hz : VList (cx ok pl w) q.zero.vc z.cells.toList := by
      rw [hT.zv] at hf ⊢; exact (ofZero_rel _ z).vc hf
    obtain ⟨h1, h2⟩ := cells_new s.hs hz t (WExt.refl w)
    have hrun : (execOp a.eval o).run e.P w = .ok (.value (.pointer (some ⟨w.heap.size, 0, none⟩))) (w.alloc (.cells z.cells t)) := by
      have : (Instr.alloc t true (.tuple #[])).run e.P w = .ok (.pointer (some ⟨w.heap.size, 0, none⟩)) (w.alloc (.cells z.cells t)) := by
        unfold Instr.alloc
        simp only [Sem.run_bind, hT.run_zero, Result.andThen]
        rfl
      have h3 : execOp a.eval o = (do pure (Next.value (← Instr.alloc t true (.tuple #[])))) := by simp [execOp, hop]
      rw [h3]; exact run_v this
    have xw := WExt.alloc w (.cells z.cells t)
    refine ⟨fun g _ => RF_fn r g, ?_⟩
    have hnd : o.semAt (RF r).round a.eval = execOp a.eval o := by
      rw [RF_round]
      exact Oper.semAt_eq r a.eval o fun c hc => by rw [hop] at hc; cases hc
    rw [hnd, hrun]
    simp only [Oper.uponIn]
    refine hk _ _ (.inr ⟨hl1, w.heap.size, ?_⟩)
    rw [hdst]
    have npl : ∀ i, pl i ≠ some w.heap.size := fun i hi => by have := s.hs.lt i _ hi; omega
    have x : CExt (fun _ => false) (cx ok pl w) (cx (fun x => ok x ∧ x ≠ w.heap.size) pl (w.alloc (.cells z.cells t))) := by
      refine ⟨fun b' hb' hok => ⟨⟨⟨hok.1, ?_⟩, hok.2⟩, xw.same b' hb'⟩, fun i b' _ hi => hi, fun b' arr' el' fz hb' => ⟨arr', fz, (xw.same b' (lt_of_heap hb')).trans hb', rfl⟩⟩
      have hb' : b' < w.heap.size := hb'
      omega
    have hsz2 : (w.alloc (.cells z.cells t)).heap.size = w.heap.size + 1 := by rw [World.alloc]; simp
    have hs' : HSim e (fun x => ok x ∧ x ≠ w.heap.size) pl h (w.alloc (.cells z.cells t)) := by
      refine s.hs.recx x (fun b' hb' => ⟨s.hs.fresh b' (by omega), by omega⟩) (fun i b' hi => by have := s.hs.lt i b' hi; omega) (fun i b' hi => ⟨s.hs.okl i b' hi, fun hh => npl i (by rw [hi, hh])⟩) s.hs.inj ?_ s.hs.bare
      intro i b' hi
      obtain ⟨o', h3, h4⟩ := s.hs.obj i b' hi
      exact ⟨o', h3, OAt.mono x (xw.same b' (s.hs.lt i b' hi)) h4⟩
    have kp' := s.kp.trans (xw.keeps s.hs)
    refine ⟨⟨hs', kp'.weaken (q := (f.put (some d) V.any).k) (fun i hi => by simpa [Fr.put] using hi), ?_, fun j => ?_, DRel.mono (fun i b' hi => x.pl i b' rfl hi) s.dfr⟩, ?_, ?_, s.kp.size, by omega, s.hs.fresh _ (Nat.le_refl _), npl, ha.dn⟩
    · have := s.size
      simpa [Act.put] using this
    · by_cases hj : j = d
      · subst hj
        have : (f.put (some j) V.any).t j = .any := by simp [Fr.put]
        rw [this]
        simp only [VRel]
      · have e1 : (f.put (some d) V.any).t j = f.t j := by simp [Fr.put, hj]
        rw [e1]
        have e2 : (a.put (some d) (.pointer (some ⟨w.heap.size, 0, none⟩))).tmps.getD j undef = a.tmps.getD j undef := by
          simp [Act.put, Array.getElem?_setIfInBounds_ne (Ne.symm hj)]
        rw [e2]
        exact VRel.mono x _ _ (s.val j)
    · have hdn : d < a.tmps.size := by rw [s.size]; exact ha.dn
      simp [Act.put, hdn]
    · obtain ⟨o', h3, h4⟩ := h1.obj h.length w.heap.size (by simp [plNew])
      have : o' = .cells q.zero.vc := by
        rw [List.getElem?_append_right (Nat.le_refl _)] at h3
        simpa using h3.symm
      subst this
      exact h4
  · rw [hl0] at hl; cases hl

theorem late_done (hB : lateB ops = true) {listed : Array Bool} (hc : Clos ops listed) (hr : ops.size - 1 ∈ Region.ready .any ops listed) : Region.ready .any ops (listed.setIfInBounds (ops.size - 1) true) = [] := by
  refine List.eq_nil_iff_forall_not_mem.2 fun j hj => ?_
  obtain ⟨h0, o, ho, _⟩ := mem_ready.1 hj
  have hlt := (Array.getElem?_eq_some_iff.1 ho).1
  by_cases hjl : j = ops.size - 1
  · subst hjl
    rcases Nat.lt_or_ge (ops.size - 1) listed.size with h' | h'
    · simp [h'] at h0
    · simp [Array.getElem?_eq_none, h'] at h0
  · rw [getD_set_ne true (Ne.symm hjl)] at h0
    have := late_all hB hc hr _ j rfl (by omega)
    rcases Nat.lt_or_ge j listed.size with h' | h'
    · simp [h'] at h0 this; rw [h0] at this; cases this
    · simp [Array.getElem?_eq_none h'] at this

theorem late_tr {ia : Nat} {d : Tmp} {q : TI} (ha : AlOk e.P n ops ia d q) (hB : lateB ops = true) : ∀ (fuel : Nat) (listed : Array Bool) (f : Fr),
    wpAnyL e n ops h (ops.size - 1) (fun f1 => vcOp e n ops (ops.size - 1) (fun f' h' => Q .normal f' h') Q (f1.put (some d) (.lp h.length 0)) (h ++ [.cells q.zero.vc])) fuel listed f →
    Clos ops listed → listed.size = ops.size → ∀ pl w a, LSt e n ok pl0 w0 h ia d q listed f pl w a → wpAnyIn (RF r) 0 e.P .any ops (APost e n ok pl0 w0 Q) (fuel + 1) listed a w := by
  have lastly : ∀ (fuel : Nat) (listed : Array Bool) (f : Fr), vcOp e n ops (ops.size - 1) (fun f' h' => Q .normal f' h') Q (f.put (some d) (.lp h.length 0)) (h ++ [.cells q.zero.vc]) → Clos ops listed → ops.size - 1 ∈ Region.ready .any ops listed →
      ∀ pl w a, LSt e n ok pl0 w0 h ia d q listed f pl w a → wpOpIn (RF r) 0 e.P ops (APost e n ok pl0 w0 Q) (ops.size - 1) (wpAnyIn (RF r) 0 e.P .any ops (APost e n ok pl0 w0 Q) fuel (listed.setIfInBounds (ops.size - 1) true)) a w := by
    intro fuel listed f hv hc hr pl w a k
    obtain ⟨o, t, ho, _⟩ := ha.op
    have hial := (Array.getElem?_eq_some_iff.1 ho).1
    have hne := ha.ne
    have hl := late_all hB hc hr _ ia rfl (by omega)
    rcases k with ⟨h0, _⟩ | ⟨_, b, k⟩
    · rw [hl] at h0; cases h0
    · exact vcOp_ok hv (fun f' h' pl' w' a' s' hq => wpAnyIn_done (late_done hB hc hr) ⟨pl', f', h', .normal, s', trivial, hq⟩ fuel) k.show
  intro fuel
  induction fuel with
  | zero =>
    intro listed f hL hc hsz pl w a k
    refine ⟨fun h0 => (by rw [hL.1] at h0; cases h0), fun i hi => ?_⟩
    have hil : i = ops.size - 1 := by rw [hL.1] at hi; simpa using hi
    subst hil
    exact lastly _ _ _ hL.2 hc hi pl w a k
  | succ fuel ih =>
    intro listed f hL hc hsz pl w a k
    refine ⟨fun h0 => absurd h0 hL.1, fun i hi => ?_⟩
    by_cases hil : i = ops.size - 1
    · subst hil
      exact lastly _ _ _ (hL.2.1 (late_one hB hc hi)) hc hi pl w a k
    · have h1 := hL.2.2 i hi hil
      obtain ⟨hun, o, ho, _⟩ := mem_ready.1 hi
      unfold aqOpL at h1
      rw [ho] at h1
      obtain ⟨v, hy, hn⟩ := h1
      by_cases hia : i = ia
      · subst hia
        obtain ⟨o', t, ho', hop, hg, hdst, hq⟩ := ha.op
        rw [ho] at ho'
        cases ho'
        have hal : isAlloc o = true := by unfold isAlloc; rw [hop]
        rcases hy with ⟨_, _, _, rfl⟩ | ⟨h2, _⟩
        · rw [hdst] at hn
          refine LSt.alloc ha (by rw [hsz]; exact (Array.getElem?_eq_some_iff.1 ho).1) k hun fun a' w' k' => ?_
          exact ih _ _ hn (hc.set hi) (by simpa using hsz) pl w' a' k'
        · rw [hal] at h2; cases h2
      · rcases hy with ⟨h2, _⟩ | ⟨_, hy⟩
        · rw [(ha.oth i o ho hia).1] at h2; cases h2
        · refine LSt.quiet ha k ho hia hy fun a' w' k' => ?_
          exact ih _ _ hn (hc.set hi) (by simpa using hsz) pl w' a' k'

theorem late_tr0 (hna : ∀ (j : Nat) (o : Oper), ops[j]? = some o → isAlloc o = false) (hB : lateB ops = true) : ∀ (fuel : Nat) (listed : Array Bool) (f : Fr),
    wpAnyL e n ops h (ops.size - 1) (fun f1 => vcOp e n ops (ops.size - 1) (fun f' h' => Q .normal f' h') Q f1 h) fuel listed f →
    Clos ops listed → ∀ pl w a, SSim e n ok pl0 w0 f h pl w a → wpAnyIn (RF r) 0 e.P .any ops (APost e n ok pl0 w0 Q) (fuel + 1) listed a w := by
  have lastly : ∀ (fuel : Nat) (listed : Array Bool) (f : Fr), vcOp e n ops (ops.size - 1) (fun f' h' => Q .normal f' h') Q f h → Clos ops listed → ops.size - 1 ∈ Region.ready .any ops listed →
      ∀ pl w a, SSim e n ok pl0 w0 f h pl w a → wpOpIn (RF r) 0 e.P ops (APost e n ok pl0 w0 Q) (ops.size - 1) (wpAnyIn (RF r) 0 e.P .any ops (APost e n ok pl0 w0 Q) fuel (listed.setIfInBounds (ops.size - 1) true)) a w := by
    intro fuel listed f hv hc hr pl w a k
    exact vcOp_ok hv (fun f' h' pl' w' a' s' hq => wpAnyIn_done (late_done hB hc hr) ⟨pl', f', h', .normal, s', trivial, hq⟩ fuel) k
  intro fuel
  induction fuel with
  | zero =>
    intro listed f hL hc pl w a k
    refine ⟨fun h0 => (by rw [hL.1] at h0; cases h0), fun i hi => ?_⟩
    have hil : i = ops.size - 1 := by rw [hL.1] at hi; simpa using hi
    subst hil
    exact lastly _ _ _ hL.2 hc hi pl w a k
  | succ fuel ih =>
    intro listed f hL hc pl w a k
    refine ⟨fun h0 => absurd h0 hL.1, fun i hi => ?_⟩
    by_cases hil : i = ops.size - 1
    · subst hil
      exact lastly _ _ _ (hL.2.1 (late_one hB hc hi)) hc hi pl w a k
    · have h1 := hL.2.2 i hi hil
      obtain ⟨hun, o, ho, _⟩ := mem_ready.1 hi
      unfold aqOpL at h1
      rw [ho] at h1
      obtain ⟨v, hy, hn⟩ := h1
      rcases hy with ⟨h2, _⟩ | ⟨_, hd, g, v', hg, hv, rfl⟩
      · rw [hna i o ho] at h2; cases h2
      · unfold wpOpIn
        rw [ho]
        dsimp only
        have hw := gd_ok k.val hg
        cases g with
        | true =>
          rw [if_pos hw]
          exact (hv rfl).wpIn k fun x w' hx hr => ih _ _ hn (hc.set hi) pl w' _ ((k.next0 (k.hs.wext hx) (hx.keeps k.hs)).put hd hr)
        | false =>
          rw [if_neg (by rw [hw]; simp)]
          exact ⟨fun g _ => RF_fn r g, ih _ _ hn (hc.set hi) pl w _ (k.put hd (guard_rel (fun hf => by cases hf) (fun _ => rfl)))⟩

/-- Every operation computes and reads, calls what does, or makes the new object, one after another. -/
def vcQuietL (e : E) (n : Nat) (ops : Array Oper) (h : H) (Q : Fr → Prop) : List Oper → Fr → Prop
  | [], f => Q f
  | o :: rest, f => match isAlloc o with
    | true => o.guard = none ∧ dstOk n o.dst = true ∧ vcQuietL e n ops h Q rest (f.put o.dst .any)
    | false => match gd ops f o with
      | none => False
      | some g => dstOk n o.dst = true ∧
        match isEff o.op with
        | true => match o.op with
          | .call { callee := .value fx, args, .. } => match callOn e (f.ev e) fx args with
            | some (q, vs) => vcEv e g q vs (callSc (f.ev e) fx args) o.dst (vcQuietL e n ops h Q rest) f
            | none => False
          | _ => False
        | false => goQ g (pvOp e.P o (f.ev e) h) o.dst (vcQuietL e n ops h Q rest) f

theorem wpQuietL_of_vc {Q : Fr → Prop} : ∀ (l : List Oper) (f : Fr), vcQuietL e n ops h Q l f → wpQuietL e n ops h Q l f
  | [], f, hv => hv
  | o :: rest, f, hv => by
    simp only [vcQuietL] at hv
    cases hal : isAlloc o with
    | true =>
      rw [hal] at hv
      obtain ⟨h1, h2, h3⟩ := hv
      exact ⟨_, .inl ⟨hal, h1, h2, rfl⟩, wpQuietL_of_vc rest _ h3⟩
    | false =>
      rw [hal] at hv
      dsimp only at hv
      cases hg : gd ops f o with
      | none => rw [hg] at hv; exact hv.elim
      | some g =>
        rw [hg] at hv
        obtain ⟨hd, hv⟩ := hv
        cases he : isEff o.op with
        | true =>
          rw [he] at hv
          dsimp only at hv
          split at hv
          · rename_i fx args ts hop
            split at hv
            · rename_i q vs hon
              obtain ⟨rv, h1, h2⟩ := hv
              exact ⟨_, .inr ⟨hal, hd, g, rv, hg, fun hgt => AQ.call hop hon (h1 hgt).1 (h1 hgt).2.1 (h1 hgt).2.2.1 (h1 hgt).2.2.2, rfl⟩, wpQuietL_of_vc rest _ h2⟩
            · exact hv.elim
          · exact hv.elim
        | false =>
          rw [he] at hv
          dsimp only at hv
          obtain ⟨h1, h2⟩ := hv
          exact ⟨_, .inr ⟨hal, hd, g, _, hg, fun hgt => pvOp_ok (h1 hgt), rfl⟩, wpQuietL_of_vc rest _ h2⟩

def lateOk (ops : Array Oper) : Bool := decide (0 < ops.size) && lateB ops && lexFromL ops (ops.size - 1) (ops.size - 1) 0 (Array.replicate ops.size false)

theorem pre_get {ops : Array Oper} : ∀ j, j < (ops.toList.take (ops.size - 1)).length → (ops.toList.take (ops.size - 1))[j]? = ops[0 + j]? := by
  intro j hj
  rw [List.length_take] at hj
  rw [List.getElem?_take, if_pos (by omega)]
  simp

/-- A drawn region with a new object, which the last operation fills. -/
theorem awp_lateA (hm : e.P.follows .mixedOrders = true) {id : Nat} {f : Fr} (ia : Nat) (d : Tmp) (q : TI) (ha : AlOk e.P n ops ia d q) (hB : lateOk ops = true)
    (hv : vcQuietL e n ops h (fun f1 => vcOp e n ops (ops.size - 1) (fun f' h' => Q .normal f' h') Q (f1.put (some d) (.lp h.length 0)) (h ++ [.cells q.zero.vc])) (ops.toList.take (ops.size - 1)) f) : awp e n r (.region id ops true) Q f h := by
  intro ok pl0 w0 pl w a s
  unfold lateOk at hB
  simp only [Bool.and_eq_true, decide_eq_true_eq] at hB
  obtain ⟨⟨hpos, hB1⟩, hB2⟩ := hB
  have x : WExt w { w with drawn := w.drawn + 1 } := WExt.drew w
  have hlen : (ops.toList.take (ops.size - 1)).length = ops.size - 1 := by rw [List.length_take]; simp
  have hL := wpAnyL_lex (e := e) (n := n) (h := h) (last := ops.size - 1) (ops.toList.take (ops.size - 1)) 0 (Array.replicate ops.size false) f pre_get (by rw [hlen]; exact hB2) (wpQuietL_of_vc _ _ hv)
  rw [hlen] at hL
  have := late_tr (r := r) (ok := ok) (pl0 := pl0) (w0 := w0) ha hB1 _ _ _ hL Clos.none (by simp) pl _ a (.inl ⟨by
    obtain ⟨o, _, ho, _⟩ := ha.op
    have := (Array.getElem?_eq_some_iff.1 ho).1
    simp [this], s.next0 (s.hs.wext x) (x.keeps s.hs)⟩)
  rw [show ops.size - 1 + 1 = ops.size by omega] at this
  exact wpIn_region_any hm this

/-- A drawn region of which only the last operation does more than compute. -/
theorem awp_late (hm : e.P.follows .mixedOrders = true) {id : Nat} {f : Fr} (hB : (lateOk ops && ops.all fun o => !isAlloc o) = true)
    (hv : vcQuietL e n ops h (fun f1 => vcOp e n ops (ops.size - 1) (fun f' h' => Q .normal f' h') Q f1 h) (ops.toList.take (ops.size - 1)) f) : awp e n r (.region id ops true) Q f h := by
  intro ok pl0 w0 pl w a s
  unfold lateOk at hB
  simp only [Bool.and_eq_true, decide_eq_true_eq] at hB
  obtain ⟨⟨⟨hpos, hB1⟩, hB2⟩, hB3⟩ := hB
  have x : WExt w { w with drawn := w.drawn + 1 } := WExt.drew w
  have hlen : (ops.toList.take (ops.size - 1)).length = ops.size - 1 := by rw [List.length_take]; simp
  have hL := wpAnyL_lex (e := e) (n := n) (h := h) (last := ops.size - 1) (ops.toList.take (ops.size - 1)) 0 (Array.replicate ops.size false) f pre_get (by rw [hlen]; exact hB2) (wpQuietL_of_vc _ _ hv)
  rw [hlen] at hL
  have := late_tr0 (r := r) (ok := ok) (pl0 := pl0) (w0 := w0) (fun j o ho => by
    have h1 := Array.all_eq_true.1 hB3
    obtain ⟨hl, rfl⟩ := Array.getElem?_eq_some_iff.1 ho
    simpa using h1 j hl) hB1 _ _ _ hL Clos.none pl _ a (s.next0 (s.hs.wext x) (x.keeps s.hs))
  rw [show ops.size - 1 + 1 = ops.size by omega] at this
  exact wpIn_region_any hm this

def alOkB (P : Program) (n : Nat) (ops : Array Oper) (ia : Nat) (d : Tmp) : Bool := decide (ia + 1 < ops.size) && decide (d < n) &&
  (match ops[ia]? with | some o => o.guard.isNone && o.dst == some d | none => false) &&
  (List.range ops.size).all fun j => j == ia || match ops[j]? with | some o => !isAlloc o && o.dst != some d | none => true
theorem AlOk.mk' {P : Program} {ia : Nat} {d : Tmp} {q : TI} (t : TypeId) (hop : (ops[ia]?).map (·.op) = some (.alloc t)) (hq : ti P t = some q) (hf : q.zero.fit = true) (hB : alOkB P n ops ia d = true) : AlOk P n ops ia d q := by
  unfold alOkB at hB
  simp only [Bool.and_eq_true, decide_eq_true_eq] at hB
  obtain ⟨⟨⟨h1, h2⟩, h3⟩, h4⟩ := hB
  refine ⟨?_, hf, by omega, h2, fun j o ho hj => ?_⟩
  · cases ho : ops[ia]? with
    | none => rw [ho] at hop; cases hop
    | some o =>
      rw [ho] at hop h3
      simp only [Option.map_some, Option.some.injEq] at hop
      simp only [Bool.and_eq_true, beq_iff_eq, Option.isNone_iff_eq_none] at h3
      exact ⟨o, t, rfl, hop, h3.1, h3.2, hq⟩
  · have h5 := List.all_eq_true.1 h4 j (by simpa using (Array.getElem?_eq_some_iff.1 ho).1)
    rw [ho] at h5
    simp only [Bool.or_eq_true, beq_iff_eq, hj, false_or, Bool.and_eq_true, Bool.not_eq_true', bne_iff_ne, ne_eq] at h5
    exact h5
end
end Go.Abs

set_option linter.unusedVariables false
set_option linter.unusedSimpArgs false
namespace Go.Abs
open Go Go.RowKit

section
variable {e : E} {n : Nat} {r : Option Nat} {ops : Array Oper} {Q : XE → Fr → H → Prop} {ok : Nat → Prop} {pl0 : Nat → Option Nat} {w0 : World} {h : H}

def lexI (ops : Array Oper) (last : Nat) : List Nat → Array Bool → Bool
  | [], listed => Region.ready .any ops listed == [last]
  | k :: ks, listed => (Region.ready .any ops listed).contains k && k != last && Region.free .any ops listed k && lexI ops last ks (listed.setIfInBounds k true)

def opsAt (ops : Array Oper) (ks : List Nat) : List Oper := ks.filterMap fun k => ops[k]?

theorem wpAnyL_lexI {last : Nat} {Q : Fr → Prop} : ∀ (ks : List Nat) (listed : Array Bool) (f : Fr), lexI ops last ks listed = true → wpQuietL e n ops h Q (opsAt ops ks) f → wpAnyL e n ops h last Q ks.length listed f
  | [], _, _, hB, h => ⟨by simpa [lexI] using hB, h⟩
  | k :: ks, listed, f, hB, hh => by
    simp only [lexI, Bool.and_eq_true] at hB
    obtain ⟨⟨⟨hr, hne⟩, hf⟩, hB'⟩ := hB
    obtain ⟨_, o, h0, _⟩ := mem_ready.1 (show k ∈ Region.ready .any ops listed by simpa using hr)
    have e1 : opsAt ops (k :: ks) = o :: opsAt ops ks := by simp [opsAt, h0]
    rw [e1] at hh
    obtain ⟨v, hy, hK⟩ := hh
    exact wpAnyL_first h0 (by simpa using hne) ks.length listed f (Region.free_spec h0 hf) (by simpa using hr) hy (wpAnyL_lexI ks _ _ hB' hK)

/-- Does the i-th wait for the j-th? -/
def dep (ops : Array Oper) (i j : Nat) : Bool := match ops[i]? with
  | some o => o.after.any fun e => Region.binds .any e && e.on == j
  | none => false
theorem dep_spec {i j : Nat} (h : dep ops i j = true) : ∃ o, ops[i]? = some o ∧ ∃ e ∈ o.after, Region.binds .any e = true ∧ e.on = j := by
  unfold dep at h
  split at h
  · rename_i o ho
    rw [Array.any_eq_true] at h
    obtain ⟨q, hq, h3⟩ := h
    rw [Bool.and_eq_true, beq_iff_eq] at h3
    exact ⟨o, ho, _, Array.getElem_mem hq, h3.1, h3.2⟩
  · cases h
def lateI (ops : Array Oper) (tk pre : List Nat) (last : Nat) : Bool :=
  (pre.all fun i => (last :: pre).any fun j => decide (i < j) && dep ops j i) && (List.range ops.size).all fun i => tk.contains i || pre.contains i || i == last || dep ops i last

/-- What is listed while the computing goes on. -/
structure LI (ops : Array Oper) (tk pre : List Nat) (last : Nat) (listed : Array Bool) : Prop where
  clos : Clos ops listed
  size : listed.size = ops.size
  took : ∀ i ∈ tk, i < ops.size → listed.getD i false = true
  tail : ∀ i, i ∉ tk → i ∉ pre → listed.getD i false = false

theorem LI.all {tk pre : List Nat} {last : Nat} {listed : Array Bool} (k : LI ops tk pre last listed) (hB : lateI ops tk pre last = true) (hr : last ∈ Region.ready .any ops listed) : ∀ (m i : Nat), m = ops.size - i → i ∈ pre → listed.getD i false = true := by
  intro m
  induction m using Nat.strongRecOn with
  | _ m ih =>
    intro i hm hi
    unfold lateI at hB
    rw [Bool.and_eq_true] at hB
    have h1 := List.all_eq_true.1 hB.1 i hi
    obtain ⟨j, hj, h2⟩ := List.any_eq_true.1 h1
    rw [Bool.and_eq_true, decide_eq_true_eq] at h2
    obtain ⟨hij, h2⟩ := h2
    obtain ⟨o, ho, e, he, hb, hon⟩ := dep_spec h2
    have hjs := (Array.getElem?_eq_some_iff.1 ho).1
    rw [← hon]
    rcases List.mem_cons.1 hj with rfl | hj
    · obtain ⟨_, o', ho', hall⟩ := mem_ready.1 hr
      rw [ho] at ho'
      cases ho'
      exact hall e he hb
    · exact k.clos j o ho (ih (ops.size - j) (by omega) j rfl hj) e he hb

theorem getD_bool {listed : Array Bool} {i : Nat} (hi : i < listed.size) (d d' : Bool) : listed.getD i d = listed.getD i d' := by simp [hi]

theorem LI.one {tk pre : List Nat} {last : Nat} {listed : Array Bool} (k : LI ops tk pre last listed) (hB : lateI ops tk pre last = true) (hl : last ∉ tk ∧ last ∉ pre) (hr : last ∈ Region.ready .any ops listed) : Region.ready .any ops listed = [last] := by
  have hall : ∀ j ∈ Region.ready .any ops listed, j = last := by
    intro j hj
    obtain ⟨h0, o, ho, hdep⟩ := mem_ready.1 hj
    have hlt := (Array.getElem?_eq_some_iff.1 ho).1
    have hun : listed.getD j false = false := by rw [getD_bool (by rw [k.size]; exact hlt) false true]; exact h0
    have hB2 := hB
    unfold lateI at hB2
    rw [Bool.and_eq_true] at hB2
    have h2 := List.all_eq_true.1 hB2.2 j (by simpa using hlt)
    simp only [Bool.or_eq_true, List.contains_iff_mem, beq_iff_eq] at h2
    rcases h2 with ((h2 | h2) | h2) | h2
    · rw [k.took j h2 hlt] at hun; cases hun
    · rw [k.all hB hr _ j rfl h2] at hun; cases hun
    · exact h2
    · obtain ⟨o', ho', e, he, hb, hon⟩ := dep_spec h2
      rw [ho] at ho'
      cases ho'
      have := hdep e he hb
      rw [hon, k.tail last hl.1 hl.2] at this
      cases this
  have hnd : (Region.ready .any ops listed).Nodup := by
    unfold Region.ready
    exact List.Pairwise.filter _ List.nodup_range
  match hm : Region.ready .any ops listed with
  | [] => rw [hm] at hr; cases hr
  | [x] => rw [hall x (by rw [hm]; simp)]
  | x :: y :: l =>
    exfalso
    rw [hm] at hnd
    have h1 := hall x (by rw [hm]; simp)
    have h2 := hall y (by rw [hm]; simp)
    simp [h1, h2] at hnd

/-- All but the last ones. -/
def midL (ops : Array Oper) (tk pre : List Nat) : Array Bool := ((List.range ops.size).map fun i => tk.contains i || pre.contains i).toArray

theorem LI.mid {tk pre : List Nat} {last : Nat} {listed : Array Bool} (k : LI ops tk pre last listed) (hB : lateI ops tk pre last = true) (hr : last ∈ Region.ready .any ops listed) : listed = midL ops tk pre := by
  apply Array.ext
  · simp [midL, k.size]
  · intro i h1 h2
    have hi : i < ops.size := by rw [← k.size]; exact h1
    have e1 : (midL ops tk pre)[i] = (tk.contains i || pre.contains i) := by simp [midL]
    have e2 : listed[i] = listed.getD i false := by simp [h1]
    rw [e1, e2]
    by_cases ht : i ∈ tk
    · rw [k.took i ht hi]; simp [ht]
    · by_cases hp : i ∈ pre
      · rw [k.all hB hr _ i rfl hp]; simp [hp]
      · rw [k.tail i ht hp]; simp [ht, hp]

theorem planOk_mono {P : Program} : ∀ (p : Plan) (fuel k : Nat) (listed : Array Bool), (planOk P ops p fuel listed = true → planOk P ops p (fuel + k) listed = true) ∧ (planOk.planAlts P ops p fuel listed = true → planOk.planAlts P ops p (fuel + k) listed = true)
  | .fin, fuel, k, listed => by
    refine ⟨fun h => ?_, fun h => ?_⟩
    · simpa [planOk] using h
    · simp [planOk.planAlts] at h
  | .take i p, fuel, k, listed => by
    refine ⟨fun h => ?_, fun h => ?_⟩
    · cases fuel with
      | zero => simp [planOk] at h
      | succ fuel =>
        rw [show fuel + 1 + k = (fuel + k) + 1 by omega]
        simp only [planOk] at h ⊢
        cases ho : ops[i]? with
        | none => rw [ho] at h; simp at h
        | some o =>
          rw [ho] at h
          dsimp only at h ⊢
          rw [Bool.and_eq_true] at h ⊢
          exact ⟨h.1, (planOk_mono p fuel k _).1 h.2⟩
    · simp [planOk.planAlts] at h
  | .one i p, fuel, k, listed => by
    refine ⟨fun h => ?_, fun h => ?_⟩
    · cases fuel with
      | zero => simp [planOk] at h
      | succ fuel =>
        rw [show fuel + 1 + k = (fuel + k) + 1 by omega]
        simp only [planOk] at h ⊢
        rw [Bool.and_eq_true] at h ⊢
        exact ⟨h.1, (planOk_mono p fuel k _).1 h.2⟩
    · simp only [planOk.planAlts] at h ⊢
      exact (planOk_mono p fuel k _).1 h
  | .alt i p q, fuel, k, listed => by
    refine ⟨fun h => ?_, fun h => ?_⟩
    · cases fuel with
      | zero => simp [planOk] at h
      | succ fuel =>
        rw [show fuel + 1 + k = (fuel + k) + 1 by omega]
        simp only [planOk] at h ⊢
        rw [Bool.and_eq_true, Bool.and_eq_true] at h ⊢
        exact ⟨⟨h.1.1, (planOk_mono p fuel k _).1 h.1.2⟩, (planOk_mono q fuel k _).2 h.2⟩
    · simp only [planOk.planAlts] at h ⊢
      rw [Bool.and_eq_true] at h ⊢
      exact ⟨(planOk_mono p fuel k _).1 h.1, (planOk_mono q fuel k _).2 h.2⟩

theorem LI.step {tk pre : List Nat} {last : Nat} {listed : Array Bool} (k : LI ops tk pre last listed) (hB : lateI ops tk pre last = true) (hl : last ∉ tk ∧ last ∉ pre) {i : Nat} (hi : i ∈ Region.ready .any ops listed) (hil : i ≠ last) : LI ops tk pre last (listed.setIfInBounds i true) := by
  obtain ⟨h0, o, ho, hdep⟩ := mem_ready.1 hi
  have hlt := (Array.getElem?_eq_some_iff.1 ho).1
  refine ⟨k.clos.set hi, by simpa using k.size, fun j hj hjs => getD_set_true (k.took j hj hjs), fun j h1 h2 => ?_⟩
  by_cases hji : i = j
  · subst hji
    exfalso
    have hB2 := hB
    unfold lateI at hB2
    rw [Bool.and_eq_true] at hB2
    have h3 := List.all_eq_true.1 hB2.2 i (by simpa using hlt)
    simp only [Bool.or_eq_true, List.contains_iff_mem, beq_iff_eq] at h3
    rcases h3 with ((h3 | h3) | h3) | h3
    · exact h1 h3
    · exact h2 h3
    · exact hil h3
    · obtain ⟨o', ho', e, he, hb, hon⟩ := dep_spec h3
      rw [ho] at ho'
      cases ho'
      have := hdep e he hb
      rw [hon, k.tail last hl.1 hl.2] at this
      cases this
  · rw [getD_set_ne false hji]
    exact k.tail j h1 h2

theorem mid_tr (hna : ∀ (j : Nat) (o : Oper), ops[j]? = some o → isAlloc o = false) (hQ : ∀ v f h, ¬ Q (.pan v) f h) (hpl : plainOps ops = true) {tk pre : List Nat} {last fp : Nat} {p : Plan} (hB : lateI ops tk pre last = true) (hl : last ∉ tk ∧ last ∉ pre) (hp : planOk e.P ops p fp (midL ops tk pre) = true) : ∀ (fuel : Nat) (listed : Array Bool) (f : Fr),
    wpAnyL e n ops h last (fun f1 => vcPlan e n ops Q p f1 h) fuel listed f → LI ops tk pre last listed → ∀ pl w a, SSim e n ok pl0 w0 f h pl w a → wpAnyIn (RF r) 0 e.P .any ops (APost e n ok pl0 w0 Q) (fp + fuel) listed a w := by
  have lastly : ∀ (fuel : Nat) (listed : Array Bool) (f : Fr), vcPlan e n ops Q p f h → LI ops tk pre last listed → last ∈ Region.ready .any ops listed → ∀ pl w a, SSim e n ok pl0 w0 f h pl w a → wpAnyIn (RF r) 0 e.P .any ops (APost e n ok pl0 w0 Q) (fp + fuel) listed a w := by
    intro fuel listed f hv k hr pl w a s
    have e1 := k.mid hB hr
    subst e1
    exact (vcPlan_ok hQ hpl p).1 (fp + fuel) _ f h ((planOk_mono p fp fuel _).1 hp) hv pl w a s
  intro fuel
  induction fuel with
  | zero =>
    intro listed f hL k pl w a s
    exact lastly 0 listed f hL.2 k (by rw [hL.1]; simp) pl w a s
  | succ fuel ih =>
    intro listed f hL k pl w a s
    by_cases hlr : last ∈ Region.ready .any ops listed
    · exact lastly (fuel + 1) listed f (hL.2.1 (k.one hB hl hlr)) k hlr pl w a s
    · rw [show fp + (fuel + 1) = (fp + fuel) + 1 by omega]
      refine ⟨fun h0 => absurd h0 hL.1, fun i hi => ?_⟩
      have hil : i ≠ last := fun hh => hlr (hh ▸ hi)
      have h1 := hL.2.2 i hi hil
      obtain ⟨hun, o, ho, _⟩ := mem_ready.1 hi
      unfold aqOpL at h1
      rw [ho] at h1
      obtain ⟨v, hy, hn⟩ := h1
      have k' := k.step hB hl hi hil
      rcases hy with ⟨h2, _⟩ | ⟨_, hd, g, v', hg, hv, rfl⟩
      · rw [hna i o ho] at h2; cases h2
      · unfold wpOpIn
        rw [ho]
        dsimp only
        have hw := gd_ok s.val hg
        cases g with
        | true =>
          rw [if_pos hw]
          exact (hv rfl).wpIn s fun x w' hx hr => ih _ _ hn k' pl w' _ ((s.next0 (s.hs.wext hx) (hx.keeps s.hs)).put hd hr)
        | false =>
          rw [if_neg (by rw [hw]; simp)]
          exact ⟨fun g _ => RF_fn r g, ih _ _ hn k' pl w _ (s.put hd (guard_rel (fun hf => by cases hf) (fun _ => rfl)))⟩

/-! ### Operations that only compute are taken first -/
def takesOk (P : Program) (ops : Array Oper) : List Nat → Array Bool → Bool
  | [], _ => true
  | i :: is, listed => (match ops[i]? with | some o => isPure P o.op | none => false) && (Region.ready .any ops listed).contains i && Region.free .any ops listed i && takesOk P ops is (listed.setIfInBounds i true)
def setAll (listed : Array Bool) : List Nat → Array Bool
  | [] => listed
  | i :: is => setAll (listed.setIfInBounds i true) is
def vcTakes (e : E) (n : Nat) (ops : Array Oper) (Q : XE → Fr → H → Prop) (K : Fr → H → Prop) : List Nat → Fr → H → Prop
  | [], f, h => K f h
  | i :: is, f, h => vcOp e n ops i (vcTakes e n ops Q K is) Q f h

theorem takes_tr (hQ : ∀ v f h, ¬ Q (.pan v) f h) (hpl : plainOps ops = true) {K : Fr → H → Prop} {fuel : Nat} : ∀ (tk : List Nat) (listed : Array Bool) (f : Fr) (h : H), takesOk e.P ops tk listed = true → vcTakes e n ops Q K tk f h →
    (∀ f h pl w a, K f h → SSim e n ok pl0 w0 f h pl w a → wpAnyIn (RF r) 0 e.P .any ops (APost e n ok pl0 w0 Q) fuel (setAll listed tk) a w) → ∀ pl w a, SSim e n ok pl0 w0 f h pl w a → wpAnyIn (RF r) 0 e.P .any ops (APost e n ok pl0 w0 Q) (fuel + tk.length) listed a w
  | [], listed, f, h, _, hv, hk, pl, w, a, s => hk f h pl w a hv s
  | i :: is, listed, f, h, ht, hv, hk, pl, w, a, s => by
    simp only [takesOk, Bool.and_eq_true] at ht
    obtain ⟨⟨⟨h1, h2⟩, h3⟩, h4⟩ := ht
    cases ho : ops[i]? with
    | none => rw [ho] at h1; cases h1
    | some o =>
      rw [ho] at h1
      obtain ⟨x, f', hy, s', hk'⟩ := pure_yields ho h1 hv s
      refine wpAnyIn_first' h1 ho hpl ?_ (fuel + is.length) listed a w (Region.free_spec ho h3) (by simpa using h2) hy (takes_tr hQ hpl is _ f' h h4 hk' hk pl w _ s')
      rintro c a w ⟨pl', f', h', xe, _, hx, hq⟩
      cases xe <;> first | exact hx.elim | exact (hQ _ _ _ hq).elim

def lateOk2 (P : Program) (ops : Array Oper) (tk pre : List Nat) (last : Nat) (p : Plan) : Bool :=
  (ops.all fun o => !isAlloc o) && plainOps ops && takesOk P ops tk (Array.replicate ops.size false) && lexI ops last pre (setAll (Array.replicate ops.size false) tk) && lateI ops tk pre last &&
  (!tk.contains last && !pre.contains last) && planOk P ops p (ops.size - tk.length - pre.length) (midL ops tk pre) && decide (tk.length + pre.length ≤ ops.size)

theorem setAll_LI {tk : List Nat} {P : Program} : ∀ (is : List Nat) (listed : Array Bool), takesOk P ops is listed = true → Clos ops listed → listed.size = ops.size → (∀ i ∈ tk, i ∉ is → i < ops.size → listed.getD i false = true) → (∀ i, i ∉ tk → listed.getD i false = false) → (∀ i ∈ is, i ∈ tk) →
    Clos ops (setAll listed is) ∧ (setAll listed is).size = ops.size ∧ (∀ i ∈ tk, i < ops.size → (setAll listed is).getD i false = true) ∧ (∀ i, i ∉ tk → (setAll listed is).getD i false = false)
  | [], listed, _, hc, hs, ht, hn, _ => ⟨hc, hs, fun i hi hl => ht i hi (by simp) hl, hn⟩
  | i :: is, listed, hk, hc, hs, ht, hn, hm => by
    simp only [takesOk, Bool.and_eq_true] at hk
    obtain ⟨⟨⟨_, h2⟩, _⟩, h4⟩ := hk
    refine setAll_LI is _ h4 (hc.set (by simpa using h2)) (by simpa using hs) (fun j hj hji hjs => ?_) (fun j hj => ?_) (fun j hj => hm j (by simp [hj]))
    · by_cases hij : i = j
      · subst hij
        have : i < listed.size := by omega
        simp [this]
      · exact getD_set_true (ht j hj (by simp [hji, Ne.symm hij]) hjs)
    · have hij : i ≠ j := fun hh => by
        subst hh
        exact hj (hm i (by simp))
      rw [getD_set_ne false hij]
      exact hn j hj

theorem awp_late2 (hm : e.P.follows .mixedOrders = true) {id : Nat} {f : Fr} (tk pre : List Nat) (last : Nat) (p : Plan) (R : Fr → H → Prop) (hB : lateOk2 e.P ops tk pre last p = true)
    (hv : vcTakes e n ops (onlyN R) (fun f h => vcQuietL e n ops h (fun f1 => vcPlan e n ops (onlyN R) p f1 h) (opsAt ops pre) f) tk f h) (hk : ∀ f h, R f h → Q .normal f h) : awp e n r (.region id ops true) Q f h := by
  intro ok pl0 w0 pl w a s
  unfold lateOk2 at hB
  simp only [Bool.and_eq_true, Bool.not_eq_true', decide_eq_true_eq] at hB
  obtain ⟨⟨⟨⟨⟨⟨⟨b1, b2⟩, b3⟩, b4⟩, b5⟩, b6⟩, b7⟩, b8⟩ := hB
  have hna : ∀ (j : Nat) (o : Oper), ops[j]? = some o → isAlloc o = false := fun j o ho => by
    have h1 := Array.all_eq_true.1 b1
    obtain ⟨hl, rfl⟩ := Array.getElem?_eq_some_iff.1 ho
    simpa using h1 j hl
  have hl : last ∉ tk ∧ last ∉ pre := ⟨by simpa using b6.1, by simpa using b6.2⟩
  have x : WExt w { w with drawn := w.drawn + 1 } := WExt.drew w
  obtain ⟨c1, c2, c3, c4⟩ := setAll_LI (ops := ops) (tk := tk) tk (Array.replicate ops.size false) b3 Clos.none (by simp) (fun i hi hni => absurd hi hni) (fun i hi => by
    rcases Nat.lt_or_ge i ops.size with h' | h' <;> simp [h']) (fun i hi => hi)
  have li : LI ops tk pre last (setAll (Array.replicate ops.size false) tk) := ⟨c1, c2, c3, fun i h1 _ => c4 i h1⟩
  have hQ : ∀ v f h, ¬ onlyN R (.pan v) f h := fun v f h hh => hh
  have := takes_tr (r := r) (ok := ok) (pl0 := pl0) (w0 := w0) (n := n) (e := e) (Q := onlyN R) (fuel := ops.size - tk.length - pre.length + pre.length) hQ b2 tk (Array.replicate ops.size false) f h b3 hv (fun f h pl w a hK s => by
    have hL := wpAnyL_lexI (e := e) (n := n) (h := h) pre (setAll (Array.replicate ops.size false) tk) f b4 (wpQuietL_of_vc _ _ hK)
    exact mid_tr (r := r) hna hQ b2 b5 hl b7 _ _ _ hL li pl w a s) pl _ a (s.next0 (s.hs.wext x) (x.keeps s.hs))
  rw [show ops.size - tk.length - pre.length + pre.length + tk.length = ops.size by omega] at this
  refine wpIn_mono (wpIn_region_any hm this) ?_
  rintro ex a' w' ⟨pl', f', h', xe, s', hx, hq⟩
  cases xe <;> first
    | exact ⟨pl', f', h', _, s', hx, hk _ _ hq⟩
    | exact hq.elim
end
end Go.Abs

set_option linter.unusedVariables false
namespace Go.Abs
open Go Go.RowKit
section
variable {e : E} {n : Nat} {r : Option Nat} {ops : Array Oper} {h : H} {Q : XE → Fr → H → Prop}
theorem opsAt_range (ops : Array Oper) : ∀ k : Nat, opsAt ops (List.range k) = ops.toList.take k
  | 0 => rfl
  | k + 1 => by
    have ih := opsAt_range ops k
    unfold opsAt at ih ⊢
    rw [List.range_succ, List.filterMap_append, ih, List.take_add_one]
    congr 1
    rw [List.filterMap_cons, List.filterMap_nil, Array.getElem?_toList]
    cases ops[k]? <;> rfl
theorem vcQuietL_of {K : Fr → Prop} : ∀ (l : List Oper) (f : Fr), (∀ o ∈ l, isAlloc o = false) → vcQuiet e n ops h K l f → vcQuietL e n ops h K l f
  | [], _, _, hv => hv
  | o :: rest, f, ha, hv => by
    have h0 := ha o (by simp)
    have hr := fun f' => vcQuietL_of (K := K) rest f' fun o' ho' => ha o' (by simp [ho'])
    simp only [vcQuietL, h0]
    simp only [vcQuiet] at hv
    cases hg : gd ops f o with
    | none => rw [hg] at hv; exact hv.elim
    | some g =>
      rw [hg] at hv
      refine ⟨hv.1, ?_⟩
      have hv := hv.2
      cases he : isEff o.op with
      | false =>
        rw [he] at hv
        exact ⟨hv.1, hr _ hv.2⟩
      | true =>
        rw [he] at hv
        simp only at hv ⊢
        split at hv
        · rename_i fx args ats heq
          split at hv
          · rename_i q vs hc
            obtain ⟨rv, h1, h2⟩ := hv
            simp only [heq, hc]
            exact ⟨rv, h1, hr _ h2⟩
          · exact hv.elim
        · exact hv.elim
theorem awp_late3 (hm : e.P.follows .mixedOrders = true) {id : Nat} {f : Fr} (k : Nat) (p : Plan) (R : Fr → H → Prop) (hB : lateOk2 e.P ops [] (List.range k) k p = true)
    (hv : ∀ K : Fr → Prop, (∀ f1, vcPlan e n ops (onlyN R) p f1 h → K f1) → vcQuiet e n ops h K (ops.toList.take k) f) (hk : ∀ f h, R f h → Q .normal f h) : awp e n r (.region id ops true) Q f h := by
  refine awp_late2 hm [] (List.range k) k p R hB ?_ hk
  simp only [vcTakes]
  rw [opsAt_range]
  refine vcQuietL_of _ _ (fun o ho => ?_) (hv _ fun f1 h => h)
  unfold lateOk2 at hB
  simp only [Bool.and_eq_true] at hB
  have b1 := Array.all_eq_true.1 hB.1.1.1.1.1.1.1
  obtain ⟨i, hi, rfl⟩ := List.getElem_of_mem (List.mem_of_mem_take ho)
  have := b1 i (by simpa using hi)
  simpa using this
end
end Go.Abs

set_option linter.unusedVariables false
namespace Go.Abs
open Go Go.RowKit
section
variable {e : E} {h : H}
theorem ACalls.fresh {g : FuncId} {args : List V} {R : AEnd → H → (Nat → Bool) → Prop} (hc : ACalls e g args h fun ae h' p => (∀ i, i < h.length → p i = false) ∧ R ae h' (fun _ => false)) : ACalls e g args h R :=
  fun ok pl w vs hs hl => (hc ok pl w vs hs hl).mono fun en w' ⟨p, pl', h', ae, h1, h2, h3, h4, h5⟩ =>
    ⟨fun _ => false, pl', h', ae, h1, ⟨h2.os, h2.tape, h2.output, h2.size, h2.same, h2.loc, fun i b _ hi => h2.keep i b (h4 i (hs.pl_lt hi)) hi, h2.row⟩, h3, h5⟩
end
end Go.Abs
