/- Abstract values, heaps and frames over the calculus, part 7. -/
import Derived.Test.YtegnjoonhabicaaA6
import Derived.Lib.Strings
set_option linter.unusedVariables false
set_option linter.unusedSimpArgs false
namespace Go.Abs
open Go.RowKit

/-- The cells of a local object. -/
def hcells (h : H) (id : Nat) : List V := match h[id]? with | some (.cells cs) => cs | _ => []

section
variable {P : Program} {c : C} {e : E} {ok : Nat → Prop} {pl : Nat → Option Nat} {w : World} {h : H}

/-- What the heap says of a local object's cells. -/
theorem HSim.cellsAt (hs : HSim e ok pl h w) {id b : Nat} (hb : pl id = some b) {j : Nat} {v : V} (hv : (hcells h id)[j]? = some v) :
    ∃ x, w.cell? ⟨b, j, none⟩ = some x ∧ VRel (cx ok pl w) v x := by
  obtain ⟨o, ho, hat⟩ := hs.obj id b hb
  simp only [hcells, ho] at hv
  cases o with
  | cells cs =>
    dsimp only at hv
    obtain ⟨arr, el, fz, h1, h2, h3, h4⟩ := hat
    obtain ⟨x, hx, hr⟩ := h4.get j v hv
    have hj : j < cs.length := (List.getElem?_eq_some_iff.1 hv).1
    refine ⟨x, ?_, hr⟩
    simp only [cx] at h1
    rw [List.getElem?_take_of_lt hj] at hx
    simp [World.cell?, h1]
    simpa using hx
  | dead => simp at hv
  | map _ _ => simp at hv
  | loop _ _ _ _ _ _ _ => simp at hv
  | misc _ => simp at hv

theorem HSim.cellsTake (hs : HSim e ok pl h w) {id b : Nat} (hb : pl id = some b) (off : Nat) : ∀ (n : Nat), off + n ≤ (hcells h id).length →
    ∃ xs : List Value, xs.length = n ∧ (∀ j v, xs[j]? = some v → w.cell? ⟨b, off + j, none⟩ = some v) ∧ VList (cx ok pl w) (((hcells h id).drop off).take n) xs
  | 0, _ => ⟨[], rfl, by simp, by simp [VList]⟩
  | n + 1, hn => by
    obtain ⟨xs, h1, h2, h3⟩ := HSim.cellsTake hs hb off n (by omega)
    obtain ⟨v, hv⟩ : ∃ v, (hcells h id)[off + n]? = some v := ⟨_, List.getElem?_eq_getElem (by omega)⟩
    obtain ⟨x, hx1, hx2⟩ := hs.cellsAt hb hv
    refine ⟨xs ++ [x], by simp [h1], fun j u hj => ?_, ?_⟩
    · by_cases hjn : j < n
      · rw [List.getElem?_append_left (by omega)] at hj; exact h2 j u hj
      · have : j = n := by
          have := (List.getElem?_eq_some_iff.1 hj).1
          simp [h1] at this; omega
        subst this
        rw [List.getElem?_append_right (by omega)] at hj
        simp [h1] at hj; subst hj; exact hx1
    · have : ((hcells h id).drop off).take (n + 1) = ((hcells h id).drop off).take n ++ [v] := by
        rw [List.take_succ_eq_append_getElem (by simp; omega)]
        congr 1
        simp only [List.getElem_drop]
        have := (List.getElem?_eq_some_iff.1 hv).2
        rw [this]
      rw [this]
      refine h3.append ?_
      simp only [VList]
      exact ⟨x, [], rfl, hx2, rfl⟩

def pvLoad (P : Program) (h : H) (t : TypeId) (x : V) : PV :=
  match ti P t with
  | some r => match x with
    | .lp id off => (off + r.size ≤ (hcells h id).length ∧ (r.agg = false → r.size = 1), V.sub (hcells h id) off r.size r.agg)
    | .ip (.agg vs) => (r.agg = true ∧ r.size = vs.length, .agg vs)
    | .ip e => (r.agg = false ∧ e.one = true, e)
    | _ => pvNo
  | none => pvNo

theorem pvLoad_ok (hs : HSim e ok pl h w) {t : TypeId} {x : V} {xv : Value} (hx : VRel (cx ok pl w) x xv) : Gives P (cx ok pl w) (Instr.loadAt t xv) (pvLoad P h t x) := by
  unfold pvLoad
  split
  · rename_i r hr
    obtain ⟨i, d, z, hT⟩ := ti_some hr
    split
    · rename_i id off
      rintro ⟨h1, h2⟩
      simp only [VRel] at hx
      obtain ⟨b, hb, rfl⟩ := hx
      have hb' : pl id = some b := hb
      cases ha : r.agg with
      | true =>
        obtain ⟨xs, h3, h4, h5⟩ := hs.cellsTake hb' off r.size h1
        refine ⟨.agg xs.toArray, ?_, ?_⟩
        · have := run_loadCells_list (P := P) w ⟨b, off, none⟩ xs (fun j v hj => by rw [add_plain]; exact h4 j v hj)
          rw [h3] at this
          simp [Instr.loadAt, Instr.sureAddr, loadVar, hT.agg, ha, Result.andThen, hT.run_size, cx, this]
        · simp only [V.sub, cond_true, VRel]
          exact ⟨_, rfl, by simpa using h5⟩
      | false =>
        have hsz := h2 ha
        obtain ⟨v, hv⟩ : ∃ v, (hcells h id)[off]? = some v := ⟨_, List.getElem?_eq_getElem (by omega)⟩
        obtain ⟨y, hy1, hy2⟩ := hs.cellsAt hb' hv
        refine ⟨y, ?_, ?_⟩
        · simp [Instr.loadAt, Instr.sureAddr, loadVar, hT.agg, ha, Result.andThen, cx, hy1]
        · simp only [V.sub, cond_false, List.getD_eq_getElem?_getD, hv, Option.getD_some]; exact hy2
    · rename_i vs
      rintro ⟨ha, h2⟩
      simp only [VRel] at hx
      obtain ⟨b, o, ev, rfl, h3, h4, cs, rfl, hcs⟩ := hx
      have hl := hcs.length
      refine ⟨.agg cs, ?_, ?_⟩
      · have := run_loadCells_list (P := P) w ⟨b, o, none⟩ cs.toList (fun j v hj => by
          have hlt : j < cs.size := by simpa using (List.getElem?_eq_some_iff.1 hj).1
          rw [add_plain]
          exact ((h3 j hlt).2).trans (by simpa [Value.cells] using hj))
        rw [hl, ← h2] at this
        simp [Instr.loadAt, Instr.sureAddr, loadVar, hT.agg, ha, Result.andThen, hT.run_size, cx, this]
      · simp only [VRel]; exact ⟨cs, rfl, VList.ofdata _ _ hcs⟩
    · rename_i e' _
      rintro ⟨ha, h2⟩
      simp only [VRel] at hx
      obtain ⟨b, o, ev, rfl, h3, h4, h5⟩ := hx
      have h1 := h5.one h2
      refine ⟨ev, ?_, VRel.ofdata _ _ h5⟩
      have := (h3 0 h4).2
      rw [h1] at this
      have hc : w.cell? ⟨b, o, none⟩ = some ev := by simpa [cx] using this
      simp [Instr.loadAt, Instr.sureAddr, loadVar, hT.agg, ha, Result.andThen, cx, hc]
    · exact Gives.no
  · exact Gives.no

/-! ### Slice expressions -/
def pvSlice (P : Program) (t : TypeId) (x : V) (lo hi mx : Option V) : PV :=
  let l : Option Int := match lo with | none => some 0 | some (.int _ n) => some n | _ => none
  match ti P t, l with
  | some r, some l => match x with
    | .str s => match hi, mx with
      | none, none => (r.kind = .str ∧ 0 ≤ l ∧ l ≤ s.length, .str (s.drop l.toNat))
      | some (.int _ n), none => (r.kind = .str ∧ 0 ≤ l ∧ l ≤ n ∧ n ≤ s.length, .str ((s.drop l.toNat).take (n.toNat - l.toNat)))
      | _, _ => pvNo
    | .is ex k es => match r.kind with
      | .slice el => match ti P el with
        | some re => match hi, mx with
          | none, none => (re.size = k ∧ 0 ≤ l ∧ l ≤ es.length, .is ex k (es.drop l.toNat))
          | some (.int _ n), none => (re.size = k ∧ 0 ≤ l ∧ l ≤ n ∧ n ≤ es.length, .is false k ((es.drop l.toNat).take (n.toNat - l.toNat)))
          | some (.int _ n), some (.int _ m) => (re.size = k ∧ 0 ≤ l ∧ l ≤ n ∧ n ≤ es.length ∧ m = n, .is true k ((es.drop l.toNat).take (n.toNat - l.toNat)))
          | _, _ => pvNo
        | none => pvNo
      | _ => pvNo
    | .ls id k off len cap => match r.kind with
      | .slice el => match ti P el with
        | some re => match hi, mx with
          | none, none => (re.size = k ∧ 0 ≤ l ∧ l ≤ len, .ls id k (off + l.toNat * k) (len - l.toNat) (cap - l.toNat))
          | some (.int _ n), none => (re.size = k ∧ 0 ≤ l ∧ l ≤ n ∧ (n ≤ len ∨ n ≤ cap), .ls id k (off + l.toNat * k) (n.toNat - l.toNat) (cap - l.toNat))
          | _, _ => pvNo
        | none => pvNo
      | _ => pvNo
    | _ => pvNo
  | _, _ => pvNo

theorem run_bounds {P : Program} {w : World} (isSlice : Bool) (len cap : Nat) (kl : IntKind) (lo : Option V) (hi mx : Option V) (lov hiv mxv : Option Value) (l n m : Int)
    (hl : (lov = none ∧ l = 0) ∨ ∃ k, lov = some (.int k l)) (hh : (hiv = none ∧ mxv = none ∧ n = len) ∨ ∃ k, hiv = some (.int k n)) (hm : (mxv = none ∧ m = cap) ∨ ∃ k, mxv = some (.int k m))
    (h0 : 0 ≤ l) (h1 : l ≤ n) (h2 : n ≤ m) (h3 : m ≤ cap) : (Instr.sliceBounds isSlice len cap lov hiv mxv).run P w = .ok (l.toNat, n.toNat, m.toNat) w := by
  have hb : ∀ (k : IntKind) (i : Int) (y : Nat) (code : BoundsCode), 0 ≤ i → i ≤ y → (Instr.sliceBound (.int k i) y code).run P w = .ok i.toNat w := by
    intro k i y code h4 h5
    simp [Instr.sliceBound, asIntOf, Result.andThen, h4, h5]
  have h5 : 0 ≤ n := by omega
  have h6 : 0 ≤ m := by omega
  have q1 : n ≤ (m.toNat : Int) := by omega
  have q2 : l ≤ (n.toNat : Int) := by omega
  have q3 : (cap : Int).toNat = cap := by omega
  unfold Instr.sliceBounds
  rcases hm with ⟨rfl, rfl⟩ | ⟨km, rfl⟩ <;> rcases hh with ⟨rfl, h7, rfl⟩ | ⟨kh, rfl⟩ <;> rcases hl with ⟨rfl, rfl⟩ | ⟨kl', rfl⟩ <;> first | (cases h7; done) | skip
  all_goals simp_all [Result.andThen]


theorem optInt {c : C} {lo : Option V} {lov : Option Value} {l : Int} (h : (match lo with | none => some 0 | some (.int _ n) => some n | _ => none) = some l)
    (hr : ∀ v, lo = some v → ∃ x, lov = some x ∧ VRel c v x) (hn : lo = none → lov = none) : (lov = none ∧ l = 0) ∨ ∃ k, lov = some (.int k l) := by
  split at h
  · exact .inl ⟨hn rfl, by cases h; rfl⟩
  · rename_i k n
    obtain ⟨x, h1, h2⟩ := hr _ rfl
    simp only [VRel] at h2
    cases h; subst h2; exact .inr ⟨k, h1⟩
  · cases h

theorem pvSlice_ok {t : TypeId} {x : V} {xv : Value} {lo hi mx : Option V} {lov hiv mxv : Option Value} (hx : VRel c x xv)
    (hlo : (∀ v, lo = some v → ∃ x, lov = some x ∧ VRel c v x) ∧ (lo = none → lov = none))
    (hhi : (∀ v, hi = some v → ∃ x, hiv = some x ∧ VRel c v x) ∧ (hi = none → hiv = none))
    (hmx : (∀ v, mx = some v → ∃ x, mxv = some x ∧ VRel c v x) ∧ (mx = none → mxv = none)) :
    Gives P c (Instr.sliceAt t xv lov hiv mxv) (pvSlice P t x lo hi mx) := by
  unfold pvSlice
  dsimp only
  split
  · rename_i r l hr hl
    obtain ⟨i, d, z, hT⟩ := ti_some hr
    have hl' := optInt hl hlo.1 hlo.2
    split
    · rename_i s
      simp only [VRel] at hx
      obtain ⟨u, rfl, rfl, hu⟩ := hx
      split
      · rintro ⟨hk, h0, h1⟩
        have hd := hT.str hk
        subst hd
        have hh := hhi.2 rfl
        have hm := hmx.2 rfl
        subst hh; subst hm
        have hb := run_bounds (P := P) (w := c.w) false u.size u.size .i64 lo none none lov none none l u.size u.size hl' (.inl ⟨rfl, rfl, rfl⟩) (.inl ⟨rfl, rfl⟩) h0 (by rw [size_data]; exact h1) (by omega) (by omega)
        refine ⟨.string (u.extract l.toNat u.size), ?_, ?_⟩
        · simp [Instr.sliceAt, hT.run_und, Result.andThen, Instr.slice, hb]
        · simp only [VRel]
          refine ⟨_, rfl, ?_, by rw [List.length_drop]; omega⟩
          rw [Lib.extract_data, List.take_of_length_le]
          rw [List.length_drop, size_data]; omega
      · rename_i k n
        rintro ⟨hk, h0, h1, h2⟩
        have hd := hT.str hk
        subst hd
        obtain ⟨hv, hh1, hh2⟩ := hhi.1 _ rfl
        simp only [VRel] at hh2
        have hm := hmx.2 rfl
        subst hh1; subst hh2; subst hm
        have hb := run_bounds (P := P) (w := c.w) false u.size u.size .i64 lo (some (.int k n)) none lov (some (.int k n)) none l n u.size hl' (.inr ⟨k, rfl⟩) (.inl ⟨rfl, rfl⟩) h0 h1 (by rw [size_data]; exact h2) (by omega)
        refine ⟨.string (u.extract l.toNat n.toNat), ?_, ?_⟩
        · simp [Instr.sliceAt, hT.run_und, Result.andThen, Instr.slice, hb]
        · simp only [VRel]
          refine ⟨_, rfl, by rw [Lib.extract_data], ?_⟩
          rw [List.length_take, List.length_drop]; omega
      · exact Gives.no
    · rename_i ex k es
      simp only [VRel] at hx
      obtain ⟨a, cp, rfl, hlen, hmax, hex, hh⟩ := hx
      split
      · rename_i el hk
        have hd := hT.slice hk
        subst hd
        split
        · rename_i re hre
          obtain ⟨i', d', z', hT'⟩ := ti_some hre
          have sub : ∀ (lo n : Nat) (a' : Option Addr) (cp' : Nat) (ex' : Bool), lo ≤ n → n ≤ es.length → n - lo ≤ cp' → cp' ≤ maxLen → (ex' = true → cp' = n - lo) →
              (es ≠ [] → lo < n → a' = a.map (·.add (lo * k))) →
              VRel c (.is ex' k ((es.drop lo).take (n - lo))) (.slice a' (n - lo) cp') := by
            intro lo n a' cp' ex' h1 h2 h3 h4 h5 h6
            have hl : ((es.drop lo).take (n - lo)).length = n - lo := by rw [List.length_take, List.length_drop]; omega
            simp only [VRel]
            refine ⟨a', cp', by rw [hl], by rw [hl]; exact h3, h4, by rw [hl]; exact h5, ?_⟩
            rcases hh with rfl | ⟨b, off, rfl, hel⟩
            · left; simp
            · by_cases hln : lo < n
              · right
                have hne : es ≠ [] := by rintro rfl; simp at h2; omega
                refine ⟨b, off + lo * k, ?_, hel.sub lo (n - lo)⟩
                rw [h6 hne hln]
                simp [add_plain]
              · left
                exact List.length_eq_zero_iff.1 (by rw [hl]; omega)
          split
          · rintro ⟨hs, h0, h1⟩
            have hh1 := hhi.2 rfl
            have hm := hmx.2 rfl
            subst hh1; subst hm
            have hb := run_bounds (P := P) (w := c.w) true es.length cp .i64 lo none none lov none none l es.length cp hl' (.inl ⟨rfl, rfl, rfl⟩) (.inl ⟨rfl, rfl⟩) h0 (by omega) (by omega) (by omega)
            have e1 : es.drop l.toNat = (es.drop l.toNat).take (es.length - l.toNat) := by rw [List.take_of_length_le]; simp
            refine ⟨.slice (if cp = l.toNat then a else a.map (·.add (l.toNat * k))) (es.length - l.toNat) (cp - l.toNat), ?_, ?_⟩
            · simp [Instr.sliceAt, hT.run_und, Result.andThen, Instr.slice, hb, hT'.run_size, hs]
            · rw [e1]
              refine sub l.toNat es.length _ _ ex (by omega) (by omega) (by omega) (by omega) (fun hx => by have := hex hx; omega) (fun _ hlt => ?_)
              rw [if_neg (by omega)]
          · rename_i kk n
            rintro ⟨hs, h0, h1, h2⟩
            obtain ⟨hv, hh1, hh2⟩ := hhi.1 _ rfl
            simp only [VRel] at hh2
            have hm := hmx.2 rfl
            subst hh1; subst hh2; subst hm
            have hb := run_bounds (P := P) (w := c.w) true es.length cp .i64 lo (some (.int kk n)) none lov (some (.int kk n)) none l n cp hl' (.inr ⟨kk, rfl⟩) (.inl ⟨rfl, rfl⟩) h0 h1 (by omega) (by omega)
            refine ⟨.slice (if cp = l.toNat then a else a.map (·.add (l.toNat * k))) (n.toNat - l.toNat) (cp - l.toNat), ?_, ?_⟩
            · simp [Instr.sliceAt, hT.run_und, Result.andThen, Instr.slice, hb, hT'.run_size, hs]
            · refine sub l.toNat n.toNat _ _ false (by omega) (by omega) (by omega) (by omega) (fun hx => by cases hx) (fun _ hlt => ?_)
              rw [if_neg (by omega)]
          · rename_i kk n km m
            rintro ⟨hs, h0, h1, h2, h3⟩
            obtain ⟨hv, hh1, hh2⟩ := hhi.1 _ rfl
            obtain ⟨mv, hm1, hm2⟩ := hmx.1 _ rfl
            simp only [VRel] at hh2 hm2
            subst hh1; subst hh2; subst hm1; subst hm2
            have hb := run_bounds (P := P) (w := c.w) true es.length cp .i64 lo (some (.int kk n)) (some (.int km m)) lov (some (.int kk n)) (some (.int km m)) l n m hl' (.inr ⟨kk, rfl⟩) (.inr ⟨km, rfl⟩) h0 h1 (by omega) (by omega)
            refine ⟨.slice (if m.toNat = l.toNat then a else a.map (·.add (l.toNat * k))) (n.toNat - l.toNat) (m.toNat - l.toNat), ?_, ?_⟩
            · simp [Instr.sliceAt, hT.run_und, Result.andThen, Instr.slice, hb, hT'.run_size, hs]
            · refine sub l.toNat n.toNat _ _ true (by omega) (by omega) (by omega) (by omega) (fun hx => by omega) (fun _ hlt => ?_)
              rw [if_neg (by omega)]
          · exact Gives.no
        · exact Gives.no
      · exact Gives.no
    · rename_i id k off len cap
      simp only [VRel] at hx
      obtain ⟨a, cp, rfl, hcap, hlen, hmax, hh⟩ := hx
      split
      · rename_i el hk
        have hd := hT.slice hk
        subst hd
        split
        · rename_i re hre
          obtain ⟨i', d', z', hT'⟩ := ti_some hre
          have sub : ∀ (lo n : Nat), lo ≤ n → n ≤ cp →
              VRel c (.ls id k (off + lo * k) (n - lo) (cap - lo)) (.slice (if cp = lo then a else a.map (·.add (lo * k))) (n - lo) (cp - lo)) := by
            intro lo n h1 h2
            simp only [VRel]
            refine ⟨_, _, rfl, by omega, by omega, by omega, ?_⟩
            by_cases hc : cp - lo = 0
            · exact .inl hc
            · rcases hh with hh | ⟨b, arr, el', fz, hb, rfl, h3, h4⟩
              · omega
              · refine .inr ⟨b, arr, el', fz, hb, ?_, h3, ?_⟩
                · rw [if_neg (by omega)]; simp [add_plain]
                · have : off + lo * k + (cp - lo) * k = off + cp * k := by
                    rw [Nat.add_assoc, ← Nat.add_mul]; congr 2; omega
                  omega
          split
          · rintro ⟨hs, h0, h1⟩
            have hh1 := hhi.2 rfl
            have hm := hmx.2 rfl
            subst hh1; subst hm
            have hb := run_bounds (P := P) (w := c.w) true len cp .i64 lo none none lov none none l len cp hl' (.inl ⟨rfl, rfl, rfl⟩) (.inl ⟨rfl, rfl⟩) h0 (by omega) (by omega) (by omega)
            refine ⟨.slice (if cp = l.toNat then a else a.map (·.add (l.toNat * k))) (len - l.toNat) (cp - l.toNat), ?_, sub l.toNat len (by omega) (by omega)⟩
            simp [Instr.sliceAt, hT.run_und, Result.andThen, Instr.slice, hb, hT'.run_size, hs]
          · rename_i kk n
            rintro ⟨hs, h0, h1, h2⟩
            obtain ⟨hv, hh1, hh2⟩ := hhi.1 _ rfl
            simp only [VRel] at hh2
            have hm := hmx.2 rfl
            subst hh1; subst hh2; subst hm
            have hb := run_bounds (P := P) (w := c.w) true len cp .i64 lo (some (.int kk n)) none lov (some (.int kk n)) none l n cp hl' (.inr ⟨kk, rfl⟩) (.inl ⟨rfl, rfl⟩) h0 h1 (by omega) (by omega)
            refine ⟨.slice (if cp = l.toNat then a else a.map (·.add (l.toNat * k))) (n.toNat - l.toNat) (cp - l.toNat), ?_, sub l.toNat n.toNat (by omega) (by omega)⟩
            simp [Instr.sliceAt, hT.run_und, Result.andThen, Instr.slice, hb, hT'.run_size, hs]
          · exact Gives.no
        · exact Gives.no
      · exact Gives.no
    · exact Gives.no
  · exact Gives.no

end
end Go.Abs
