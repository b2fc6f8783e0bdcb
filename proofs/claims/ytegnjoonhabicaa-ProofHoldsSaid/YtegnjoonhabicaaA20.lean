/- Abstract values, heaps and frames over the calculus, part 20. -/
import Derived.Test.YtegnjoonhabicaaA19
set_option linter.unusedVariables false
set_option linter.unusedSimpArgs false
set_option linter.unnecessarySimpa false
namespace Go.Abs
open Go.RowKit

/-! ### Local objects read as data -/
def Reif (e : E) (h : H) (v v' : V) : Prop :=
  ∀ ok pl w x, HSim e ok pl h w → VRel (cx ok pl w) v x → VRel (cx ok (fun _ => none) w) v' x

def Reifs (e : E) (h : H) (vs vs' : List V) : Prop :=
  ∀ ok pl w xs, HSim e ok pl h w → VList (cx ok pl w) vs xs → VList (cx ok (fun _ => none) w) vs' xs

theorem cext_wide (ok : Nat → Prop) (pl : Nat → Option Nat) (w : World) : CExt (fun _ => false) (cx ok pl w).data (cx ok (fun _ => none) w) :=
  ⟨fun b hb hok => ⟨⟨hok.1, fun i hi => (by cases hi)⟩, rfl⟩, fun i b _ hi => (by cases hi), fun b arr el fz hb => ⟨arr, fz, hb, rfl⟩⟩

section
variable {e : E} {h : H}

theorem Reif.dat {v : V} (hd : v.dat = true) : Reif e h v v :=
  fun ok pl w x hs hv => VRel.mono (cext_wide ok pl w) _ _ (VRel.todata _ _ hd hv)
theorem Reif.eq {v v' : V} (hd : v'.dat = true) (h0 : v = v') : Reif e h v v' := by subst h0; exact Reif.dat hd
theorem Reif.nils {ex : Bool} {k : Nat} : Reif e h .nils (.is ex k []) := by
  intro ok pl w x hs hv
  simp only [VRel] at hv ⊢
  exact ⟨none, 0, hv, Nat.le_refl _, Nat.zero_le _, fun _ => rfl, .inl trivial⟩
theorem Reifs.dat {vs : List V} (hd : V.dats vs = true) : Reifs e h vs vs :=
  fun ok pl w x hs hv => VList.mono (cext_wide ok pl w) _ _ (VList.todata _ _ hd hv)
theorem Reifs.nil : Reifs e h [] [] := fun ok pl w x hs hv => by simpa only [VList] using hv
theorem Reifs.cons {v v' : V} {vs vs' : List V} (h1 : Reif e h v v') (h2 : Reifs e h vs vs') : Reifs e h (v :: vs) (v' :: vs') := by
  intro ok pl w xs hs hv
  simp only [VList] at hv ⊢
  obtain ⟨y, ys, rfl, h3, h4⟩ := hv
  exact ⟨y, ys, rfl, h1 ok pl w y hs h3, h2 ok pl w ys hs h4⟩
theorem Reifs.append {vs vs' us us' : List V} (h1 : Reifs e h vs vs') (h2 : Reifs e h us us') (hl : vs.length = vs'.length) : Reifs e h (vs ++ us) (vs' ++ us') := by
  intro ok pl w xs hs hv
  have l0 := hv.length
  have a := hv.take vs.length
  have b := hv.dropN vs.length
  rw [List.take_left] at a
  rw [List.drop_left] at b
  have := (h1 ok pl w _ hs a).append (h2 ok pl w _ hs b)
  rwa [List.take_append_drop] at this
theorem Reif.tup {vs vs' : List V} (h1 : Reifs e h vs vs') : Reif e h (.tup vs) (.tup vs') := by
  intro ok pl w x hs hv
  simp only [VRel] at hv ⊢
  obtain ⟨cs, rfl, h2⟩ := hv
  exact ⟨cs, rfl, h1 ok pl w _ hs h2⟩
theorem Reif.agg {vs vs' : List V} (h1 : Reifs e h vs vs') : Reif e h (.agg vs) (.agg vs') := by
  intro ok pl w x hs hv
  simp only [VRel] at hv ⊢
  obtain ⟨cs, rfl, h2⟩ := hv
  exact ⟨cs, rfl, h1 ok pl w _ hs h2⟩
theorem Reif.iface {t : TypeId} {v v' : V} (h1 : Reif e h v v') : Reif e h (.iface t v) (.iface t v') := by
  intro ok pl w x hs hv
  simp only [VRel] at hv ⊢
  obtain ⟨cs, rfl, h2⟩ := hv
  exact ⟨cs, rfl, h1 ok pl w _ hs h2⟩
theorem Reif.fn {g : Fn} {as as' bs bs' : List V} (h1 : Reifs e h as as') (h2 : Reifs e h bs bs') : Reif e h (.fn g as bs) (.fn g as' bs') := by
  intro ok pl w x hs hv
  simp only [VRel] at hv ⊢
  obtain ⟨fs, cs, rfl, h3, h4⟩ := hv
  exact ⟨fs, cs, rfl, h1 ok pl w _ hs h3, h2 ok pl w _ hs h4⟩

theorem VRel.of_vc {c : C} {v : V} {xs : List Value} (hf : v.fit = true) (hv : VList c v.vc xs) : ∃ x, x.cells.toList = xs ∧ VRel c v x := by
  have one : v.one = true → v.vc = [v] → ∃ x, x.cells.toList = xs ∧ VRel c v x := by
    intro h1 h2
    rw [h2] at hv
    simp only [VList] at hv
    obtain ⟨y, ys, rfl, h3, rfl⟩ := hv
    exact ⟨y, by rw [h3.one h1], h3⟩
  cases v <;> first
    | exact one (by simpa [V.fit] using hf) rfl
    | skip
  case agg vs => exact ⟨.agg xs.toArray, by simp [Value.cells], by simp only [VRel]; exact ⟨xs.toArray, rfl, by simpa [V.vc] using hv⟩⟩

theorem elems_of_flat {ok : Nat → Prop} {w : World} {b k : Nat} (hb : ok b) {arr : Array Value} {el : TypeId} {fz : Nat × Nat} (ha : w.heap[b]? = some (.cells arr el fz)) :
    ∀ (es : List V) (off : Nat) (xs : List Value), allFit k es = true → VList (cx ok (fun _ => none) w) (es.flatMap V.vc) xs → (∀ (j : Nat) y, xs[j]? = some y → arr[off + j]? = some y) →
      VElems (cx ok (fun _ => none) w) k es b off
  | [], off, xs, _, _, _ => by simp only [VElems]
  | v :: es, off, xs, hf, hv, hx => by
    simp only [allFit, Bool.and_eq_true, beq_iff_eq] at hf
    obtain ⟨⟨⟨f1, f2⟩, f3⟩, f4⟩ := hf
    rw [List.flatMap_cons] at hv
    have a := hv.take v.vc.length
    have d := hv.dropN v.vc.length
    rw [List.take_left] at a
    rw [List.drop_left] at d
    obtain ⟨y, h1, h2⟩ := VRel.of_vc f1 a
    have hlen : y.cells.size = k := by
      have := a.length
      rw [← h1] at this
      simpa [f3] using this
    simp only [VElems]
    refine ⟨⟨y, hlen, fun j hj => ⟨⟨hb, fun i hi => (by cases hi)⟩, ?_⟩, h2⟩, ?_⟩
    · have hj' : y.cells[j]? = some y.cells[j] := by simp [hj]
      have h3 : (xs.take v.vc.length)[j]? = some y.cells[j] := by rw [← h1]; simpa using hj'
      have h4 : xs[j]? = some y.cells[j] := by
        rw [List.getElem?_take] at h3
        split at h3
        · exact h3
        · cases h3
      have := hx j _ h4
      show w.cell? _ = _
      simp only [World.cell?, ha, hj']
      simpa using this
    · refine elems_of_flat hb ha es (off + k) _ f4 d fun j z hz => ?_
      rw [List.getElem?_drop] at hz
      have := hx _ z hz
      rw [f3] at this
      rw [Nat.add_assoc]; exact this

theorem Reif.ls {id k len cap : Nat} {cs cs' es : List V} (hc : h[id]? = some (.cells cs)) (hr : Reifs e h cs cs') (hf : allFit k es = true) (hflat : es.flatMap V.vc = cs') (hlen : len = es.length) :
    Reif e h (.ls id k 0 len cap) (.is false k es) := by
  intro ok pl w x hs hv
  simp only [VRel] at hv ⊢
  obtain ⟨a, cp, rfl, h1, h2, h3, h4⟩ := hv
  refine ⟨a, cp, by rw [hlen], by omega, h3, fun hf => (by cases hf), ?_⟩
  rcases h4 with h4 | ⟨b, arr, el, fz, h5, h6, h7, h8⟩
  · exact .inl (List.length_eq_zero_iff.1 (by omega))
  · refine .inr ⟨b, 0, h6, ?_⟩
    obtain ⟨o, ho, hat⟩ := hs.obj id b h5
    rw [hc] at ho
    cases ho
    obtain ⟨arr', el', fz', h9, h10, h11, h12⟩ := hat
    have h13 : w.heap[b]? = some (.cells arr' el' fz') := h9
    have := hr ok pl w _ hs h12
    rw [← hflat] at this
    exact elems_of_flat (hs.okl id b h5) h13 es 0 _ hf this fun j y hy => by
      rw [List.getElem?_take] at hy
      split at hy
      · simpa using hy
      · cases hy

theorem Reif.lp {id off : Nat} {cs cs' : List V} {v : V} (hc : h[id]? = some (.cells cs)) (hr : Reifs e h cs cs') (hf : v.fit = true) (hd : v.dat = true) (hpos : 0 < v.vc.length) (hflat : (cs'.drop off).take v.vc.length = v.vc) :
    Reif e h (.lp id off) (.ip v) := by
  intro ok pl w x hs hv
  simp only [VRel] at hv ⊢
  obtain ⟨b, h5, rfl⟩ := hv
  obtain ⟨o, ho, hat⟩ := hs.obj id b h5
  rw [hc] at ho
  cases ho
  obtain ⟨arr', el', fz', h9, h10, h11, h12⟩ := hat
  have h13 : w.heap[b]? = some (.cells arr' el' fz') := h9
  have h14 := ((hr ok pl w _ hs h12).dropN off).take v.vc.length
  rw [hflat] at h14
  obtain ⟨y, h1, h2⟩ := VRel.of_vc hf h14
  have hlen : y.cells.size = v.vc.length := by
    have := h14.length
    rw [← h1] at this
    simpa using this
  refine ⟨b, off, y, rfl, fun j hj => ⟨⟨hs.okl id b h5, fun i hi => (by cases hi)⟩, ?_⟩, by omega, h2⟩
  have hj' : y.cells[j]? = some y.cells[j] := by simp [hj]
  have h3 : y.cells.toList[j]? = some y.cells[j] := by simpa using hj'
  rw [h1, List.getElem?_take] at h3
  split at h3
  · rw [List.getElem?_drop, List.getElem?_take] at h3
    split at h3
    · rw [hj']
      show w.cell? _ = _
      simp only [World.cell?, h13]
      simpa using h3
    · cases h3
  · cases h3

theorem Reif.lm {id : Nat} {ks vs ks' vs' : List V} (hc : h[id]? = some (.map ks vs)) (h1 : Reifs e h ks ks') (h2 : Reifs e h vs vs') : Reif e h (.lm id) (.im ks' vs') := by
  intro ok pl w x hs hv
  simp only [VRel] at hv ⊢
  obtain ⟨b, h5, rfl⟩ := hv
  obtain ⟨o, ho, hat⟩ := hs.obj id b h5
  rw [hc] at ho
  cases ho
  obtain ⟨es, clk, h3, h4, h6⟩ := hat
  exact ⟨b, es, clk, rfl, ⟨hs.okl id b h5, fun i hi => (by cases hi)⟩, h3, h1 ok pl w _ hs h4, h2 ok pl w _ hs h6.1, h6.2⟩
end

/-! ### Results -/
def resOne (P : Program) (f : Fr) (h : H) : ResultVar → PV
  | .tmp t => (True, f.t t)
  | .cell a t => PV.and (f.t a).sc (pvLoad P h t (f.t a).sv)

def resAll (P : Program) (f : Fr) (h : H) : List ResultVar → Prop × List V
  | [] => (True, [])
  | r :: rs => ((resOne P f h r).1 ∧ (resAll P f h rs).1, (resOne P f h r).2 :: (resAll P f h rs).2)

def resPV (P : Program) (f : Fr) (h : H) : List ResultVar → PV
  | [r] => resOne P f h r
  | rs => ((resAll P f h rs).1, .tup (resAll P f h rs).2)

section
variable {e : E} {n : Nat} {ok : Nat → Prop} {pl0 pl : Nat → Option Nat} {w0 w : World} {f : Fr} {h : H} {a : Act}

def resSem (tmps : Array Value) : ResultVar → Sem Value
  | .tmp t => pure (tmps.getD t undef)
  | .cell a t => do loadVar t (← asAddr (tmps.getD a undef))

theorem resOne_ok (hs : HSim e ok pl h w) {tmps : Array Value} (hv : ∀ i, VRel (cx ok pl w) (f.t i) (tmps.getD i undef)) (r : ResultVar) (hp : (resOne e.P f h r).1) :
    ∃ x, (resSem tmps r).run e.P w = .ok x w ∧ VRel (cx ok pl w) (resOne e.P f h r).2 x := by
  cases r with
  | tmp t => exact ⟨_, rfl, hv t⟩
  | cell a t =>
    simp only [resOne, PV.and] at hp
    obtain ⟨x, h1, h2⟩ := pvLoad_ok hs (t := t) ((hv a).sv hp.1) hp.2
    refine ⟨x, ?_, h2⟩
    have h1 : (Instr.loadAt t (tmps.getD a undef)).run e.P w = .ok x w := h1
    show (do loadVar t (← asAddr (tmps.getD a undef)) : Sem Value).run e.P w = _
    revert h1
    generalize tmps.getD a undef = y
    intro h1
    unfold Instr.loadAt at h1
    cases y <;> try (simp [Instr.sureAddr, stuck, Result.andThen] at h1; done)
    rename_i p
    cases p with
    | none => simp [Instr.sureAddr, stuck, Result.andThen] at h1
    | some p => simpa [Instr.sureAddr, asAddr] using h1

theorem resAll_ok (hs : HSim e ok pl h w) {tmps : Array Value} (hv : ∀ i, VRel (cx ok pl w) (f.t i) (tmps.getD i undef)) : ∀ (rs : List ResultVar), (resAll e.P f h rs).1 →
    ∃ xs, (rs.mapM (resSem tmps)).run e.P w = .ok xs w ∧ VList (cx ok pl w) (resAll e.P f h rs).2 xs
  | [], _ => ⟨[], rfl, by simp only [resAll, VList]⟩
  | r :: rs, hp => by
    obtain ⟨x, h1, h2⟩ := resOne_ok hs hv r hp.1
    obtain ⟨xs, h3, h4⟩ := resAll_ok hs hv rs hp.2
    exact ⟨x :: xs, by simp [List.mapM_cons, h1, h3, Result.andThen], by simp only [resAll, VList]; exact ⟨x, xs, rfl, h2, h4⟩⟩

theorem res_ok (hs : HSim e ok pl h w) {tmps : Array Value} (hv : ∀ i, VRel (cx ok pl w) (f.t i) (tmps.getD i undef)) {fn : Func} (hp : (resPV e.P f h fn.results.toList).1) :
    ∃ x, (results fn tmps).run e.P w = .ok x w ∧ VRel (cx ok pl w) (resPV e.P f h fn.results.toList).2 x := by
  have hr : results fn tmps = (do
      let vs ← fn.results.mapM (resSem tmps)
      pure (if h : vs.size = 1 then vs[0] else .tuple vs)) := by
    unfold results
    congr 1
  have hall : (resAll e.P f h fn.results.toList).1 := by
    revert hp
    cases fn.results.toList with
    | nil => exact fun hp => hp
    | cons r rs =>
      cases rs with
      | nil => exact fun hp => ⟨hp, trivial⟩
      | cons r' rs => exact fun hp => hp
  obtain ⟨xs, h1, h2⟩ := resAll_ok hs hv fn.results.toList hall
  have h3 : (results fn tmps).run e.P w = .ok (if h : xs.toArray.size = 1 then xs.toArray[0] else .tuple xs.toArray) w := by
    rw [hr, Array.mapM_eq_mapM_toList]
    simp only [Sem.run_bind, Sem.run_map, h1, Result.andThen]
    rfl
  refine ⟨_, h3, ?_⟩
  have hl := h2.length
  revert hp h2 hl
  cases fn.results.toList with
  | nil =>
    intro hp h2 hl
    simp only [resAll, VList] at h2
    subst h2
    simp only [resPV, resAll, VRel, VList]
    exact ⟨#[], rfl, rfl⟩
  | cons r rs =>
    cases rs with
    | nil =>
      intro hp h2 hl
      simp only [resAll, VList] at h2
      obtain ⟨y, ys, rfl, h4, rfl⟩ := h2
      simpa [resPV] using h4
    | cons r' rs =>
      intro hp h2 hl
      have : ¬ xs.toArray.size = 1 := by simp [resAll] at hl; simp [hl]
      rw [dif_neg this]
      simp only [resPV, VRel]
      exact ⟨_, rfl, by simpa using h2⟩
end

/-! ### Functions -/
def Fr.init (args : List V) : Fr := { t := fun i => args.getD i undefV }

/-- The blocks of the loops over functions are shut at the function's end. -/
def shutAll : List Nat → H → Option H
  | [], h => some h
  | i :: is, h => match h[i]? with
    | some (.misc .dfd) => shutAll is (h.set i (.misc .shut))
    | _ => none

/-- What the end of a function's body has to be. -/
def fnEnd (P : Program) (rs : List ResultVar) (R : V → H → (Nat → Bool) → Prop) (f : Fr) (h : H) : Prop :=
  match shutAll f.d h with
  | some h' => (resPV P f h' rs).1 ∧ R (resPV P f h' rs).2 h' f.k
  | none => False
def fnPost (P : Program) (rs : List ResultVar) (R : AEnd → H → (Nat → Bool) → Prop) : XE → Fr → H → Prop
  | .normal, f, h | .ret, f, h => fnEnd P rs (fun v => R (.ret v)) f h
  | .pan v, f, h => match shutAll f.d h with
    | some h' => R (.pan v) h' f.k
    | none => False
  | _, _, _ => False

section
variable {e : E} {g : FuncId} {fn : Func} {c : Code} {args : List V} {h : H} {R : AEnd → H → (Nat → Bool) → Prop}

theorem SSim.init {ok : Nat → Prop} {pl : Nat → Option Nat} {w : World} {vs : List Value} {n : Nat} (hs : HSim e ok pl h w) (hv : VList (cx ok pl w) args vs) (hn : args.length ≤ n) :
    SSim e n ok pl w (Fr.init args) h pl w { tmps := vs.toArray ++ Array.replicate (n - vs.toArray.size) undef, defers := [] } := by
  have hl := hv.length
  refine ⟨hs, Keeps.refl pl w, by simp; omega, fun i => ?_, rfl⟩
  simp only [Fr.init]
  by_cases hi : i < args.length
  · obtain ⟨x, h1, h2⟩ := VList.get i (args[i]) hv (by simp [hi])
    have h3 : args.getD i undefV = args[i] := by simp [List.getD_eq_getElem?_getD, hi]
    have h4 : (vs.toArray ++ Array.replicate (n - vs.toArray.size) undef).getD i undef = x := by
      rw [Array.getD_eq_getD_getElem?, Array.getElem?_append_left (by simpa using (by omega : i < vs.length))]
      simp [h1]
    rw [h3, h4]; exact h2
  · have h3 : args.getD i undefV = undefV := by simp [List.getD_eq_getElem?_getD, Nat.not_lt.1 hi]
    have h4 : (vs.toArray ++ Array.replicate (n - vs.toArray.size) undef).getD i undef = undef := by
      rw [Array.getD_eq_getD_getElem?, Array.getElem?_append_right (by simpa using (by omega : vs.length ≤ i)), Array.getElem?_replicate]
      split <;> rfl
    rw [h3, h4]; exact undef_rel _

theorem leaves {ok : Nat → Prop} {pl0 : Nat → Option Nat} {w0 : World} {n : Nat} {f : Fr} {R' : Ending → World → Prop} {u : FrameMode} (hu : u ≠ .run) {a : Act} {v : V} {x : Value} : ∀ (is : List Nat) (ds : List Deferred) (h h' : H) (pl : Nat → Option Nat) (w : World),
    SSim e n ok pl0 w0 { f with d := is } h pl w { a with defers := ds } → VRel (cx ok pl w) v x → shutAll is h = some h' →
    (∀ w', SSim e n ok pl0 w0 { f with d := [] } h' pl w' { a with defers := [] } → VRel (cx ok pl w') v x → LeavesInM (RF none) 0 e.P fn a.tmps R' [] u w') → LeavesInM (RF none) 0 e.P fn a.tmps R' ds u w
  | [], ds, h, h', pl, w, s, hx, hsh, hk => by
    have hd : ds = [] := s.dfr
    subst hd
    simp only [shutAll, Option.some.injEq] at hsh
    subst hsh
    exact hk w s hx
  | i :: is, ds, h, h', pl, w, s, hx, hsh, hk => by
    obtain ⟨b, rest, h1, h2, h3⟩ := s.dfr
    have h1 : ds = _ := h1
    subst h1
    have h2 : pl i = some b := h2
    simp only [shutAll] at hsh
    split at hsh
    · rename_i hc
      obtain ⟨o, ho, hat⟩ := s.hs.obj i b h2
      rw [hc] at ho; cases ho
      have hheap : w.heap[b]? = some (.deferred (some [])) := hat
      have hlt := s.hs.lt i b h2
      obtain ⟨hs2, k2⟩ := s.hs.upd (w' := w.putObj b (.deferred none)) h2 (.misc .shut) rfl rfl rfl (by simp) (fun j hj => World.putObj_heap_other hj)
        (fun arr el fz hh => by rw [hheap] at hh; cases hh) (fun k => World.putObj_heap_same hlt)
      refine ⟨hu, .inl ⟨b, _, rfl, run_takeDeferred hheap, ?_⟩⟩
      have s2 := s.next0 hs2 k2
      have h4 : DRel (cx ok pl (w.putObj b (.deferred none))) is rest := DRel.mono (c := cx ok pl w) (c' := cx ok pl (w.putObj b (.deferred none))) (fun _ _ hi => hi) h3
      exact leaves hu is rest _ h' pl _ ⟨s2.hs, s2.kp, s2.size, s2.val, h4⟩ (VRel.mono k2.cext _ _ hx) hsh hk
    · cases hsh

theorem ACalls.of_awp (hf : e.P.funcs[g]? = some fn) (hb : fn.body = some c) (hn : args.length ≤ fn.ntmps)
    (hv : awp e fn.ntmps none c (fnPost e.P fn.results.toList R) (Fr.init args) h) : ACalls e g args h R := by
  intro ok pl w vs hs hl
  refine CallsIn.toCalls (r := none) (n := 0) (callsIn_of_wp_marks hf hb (RF_fn none g) ?_ rfl)
  have s0 := SSim.init (n := fn.ntmps) hs hl hn
  refine wpIn_mono (hv ok pl w pl w _ s0) ?_
  rintro ex a w' ⟨pl', f', h', xe, s, hx, hq⟩
  have done : fnEnd e.P fn.results.toList (fun v => R (.ret v)) f' h' → LeavesInM (RF none) 0 e.P fn a.tmps (fun en w' => ∃ p pl' h' ae, HSim e ok pl' h' w' ∧ Keeps p pl w pl' w' ∧ EndRel (cx ok pl' w') ae en ∧ R ae h' p) a.defers .returning w' := by
    intro hq
    unfold fnEnd at hq
    split at hq
    · rename_i h2 hsh
      refine leaves (f := f') (a := a) (v := .any) (x := undef) (by simp) f'.d a.defers h' h2 pl' w' s (by simp only [VRel]) hsh fun w2 s2 _ => ?_
      obtain ⟨x, h1, h3⟩ := res_ok (f := f') s2.hs s2.val hq.1
      exact ⟨x, h1, f'.k, pl', h2, .ret _, s2.hs, s2.kp, h3, hq.2⟩
    · exact hq.elim
  cases xe <;> cases ex <;> (try (exact hx.elim)) <;> (try (exact hq.elim))
  case normal => exact done hq
  case ret => exact done hq
  case pan v ch =>
    simp only [fnPost] at hq
    split at hq
    · rename_i h2 hsh
      obtain ⟨x, hch, hxr⟩ := hx
      exact leaves (f := f') (a := a) (v := v) (x := x) (by simp) f'.d a.defers h' h2 pl' w' s hxr hsh fun w2 s2 hr => ⟨f'.k, pl', h2, .pan v, s2.hs, s2.kp, ⟨x, hch, hr⟩, hq⟩
    · exact hq.elim

theorem Ev.of_calls {r : V} (hv : ACalls e g args [] fun ae h _ => match ae with | .ret v => Reif e h v r | .pan _ => False) : Ev e g args r := by
  intro ok w vs hs hl
  refine (hv ok _ w vs hs hl).mono ?_
  rintro en w' ⟨p, pl', h', ae, hs', k, he, hr⟩
  cases ae with
  | pan v => exact hr.elim
  | ret v =>
    cases en with
    | returned x => exact ⟨x, rfl, ⟨k.os, k.tape, k.output, k.size, fun b hb => k.same b hb (fun i hi => by cases hi)⟩, hr ok pl' w' x hs' he⟩
    | panicked ch => exact he.elim
    | outgrown => exact he.elim

def evEnd (e : E) (r : V) (v : V) (h : H) (_ : Nat → Bool) : Prop := Reif e h v r
def evPost (e : E) (rs : List ResultVar) (r : V) : XE → Fr → H → Prop
  | .normal, f, h | .ret, f, h => fnEnd e.P rs (evEnd e r) f h
  | _, _, _ => False

theorem Ev.of_awp {r : V} (hf : e.P.funcs[g]? = some fn) (hb : fn.body = some c) (hn : args.length ≤ fn.ntmps)
    (hv : awp e fn.ntmps none c (evPost e fn.results.toList r) (Fr.init args) []) : Ev e g args r :=
  Ev.of_calls (ACalls.of_awp hf hb hn (awp_mono (fun xe f h hq => by cases xe <;> first | exact hq | exact hq.elim) hv))

def V.plain1 : V → Bool
  | .any | .bool _ | .int _ _ | .str _ | .nilp | .nils | .nilm | .nilf | .nili => true
  | _ => false

/-- Values that refer to nothing. -/
def V.plain : V → Bool
  | .tup vs => vs.all V.plain1
  | v => v.plain1

theorem VRel.plain1 {c c' : C} {v : V} {x : Value} (hp : v.plain1 = true) (h : VRel c v x) : VRel c' v x := by
  cases v <;> simp only [V.plain1, Bool.false_eq_true] at hp <;> simpa only [VRel] using h

theorem VList.plain {c c' : C} : ∀ {vs : List V} {xs : List Value}, vs.all V.plain1 = true → VList c vs xs → VList c' vs xs
  | [], _, _, h => by simpa only [VList] using h
  | v :: vs, _, hp, h => by
    simp only [List.all_cons, Bool.and_eq_true] at hp
    simp only [VList] at h ⊢
    obtain ⟨y, ys, rfl, h1, h2⟩ := h
    exact ⟨y, ys, rfl, h1.plain1 hp.1, h2.plain hp.2⟩

theorem VRel.plain {c c' : C} {v : V} {x : Value} (hp : v.plain = true) (h : VRel c v x) : VRel c' v x := by
  cases v
  case tup vs =>
    simp only [VRel] at h ⊢
    obtain ⟨cs, rfl, h1⟩ := h
    exact ⟨cs, rfl, h1.plain hp⟩
  all_goals exact VRel.plain1 (by simpa [V.plain] using hp) h

theorem HSim.lend {ok : Nat → Prop} {pl : Nat → Option Nat} {w : World} (hs : HSim e ok pl h w) : HSim e ok (fun _ => none) [] w where
  fresh := hs.fresh
  lt i b hi := by cases hi
  okl i b hi := by cases hi
  inj i j b hi := by cases hi
  obj i b hi := by cases hi
  bare i o ho := by simp at ho
  glob g v hg := Reif.dat (h := h) (v := .ip v) rfl ok pl w _ hs (hs.glob g v hg)

/-- Local objects are lent to a function that only computes. -/
theorem ACalls.lend {args' : List V} {r : V} (hv : Ev e g args' r) (hr : Reifs e h args args') (hp : r.plain = true) (hk : R (.ret r) h (fun _ => false)) : ACalls e g args h R :=
  fun ok pl w vs hs hl => (hv ok w vs hs.lend (hr ok pl w vs hs hl)).mono fun en w' ⟨x, h1, h2, h3⟩ =>
    ⟨fun _ => false, pl, h, .ret r, hs.wext h2, h2.keeps hs, by rw [h1]; exact h3.plain hp, hk⟩
end
end Go.Abs
