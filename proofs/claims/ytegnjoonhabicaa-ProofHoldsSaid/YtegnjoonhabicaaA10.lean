/- Abstract values, heaps and frames over the calculus, part 10. -/
import Derived.Test.YtegnjoonhabicaaA9
set_option linter.unusedVariables false
set_option linter.unusedSimpArgs false
namespace Go.Abs
open Go.RowKit

section
variable {P : Program} {c : C} {e : E} {ok : Nat → Prop} {pl : Nat → Option Nat} {w : World} {h : H}

def pvPlaces (P : Program) : List (Nat × Nat) → Option (List (Nat × Nat))
  | [] => some []
  | (off, ft) :: fs => match ti P ft, pvPlaces P fs with
    | some r, some l => some ((off, r.size) :: l)
    | _, _ => none

theorem pvPlaces_ok : ∀ {fs : List Field} {l : List (Nat × Nat)}, pvPlaces P (fs.map fun f => (f.offset, f.type)) = some l →
    fs.mapM (fun f => (P.info? f.type).map fun i => (f.offset, i.size)) = some l
  | [], l, h => by simp only [List.map_nil, pvPlaces] at h; cases h; rfl
  | f :: fs, l, h => by
    simp only [List.map_cons, pvPlaces] at h
    split at h
    · rename_i r l' hr hl
      cases h
      obtain ⟨i, d, z, hT⟩ := ti_some hr
      have ih := pvPlaces_ok hl
      simp [List.mapM_cons, hT.info, ih, hT.size]
    · cases h

def pvBuild (P : Program) (t : TypeId) (parts : List (Nat × V)) : PV :=
  match ti P t with
  | some r => match r.kind with
    | .struct fs => match pvPlaces P fs with
      | some places => match fillV (fun i => places[i]?) r.zero.vc parts with
        | some cs => (r.zero.fit = true, .agg cs)
        | none => pvNo
      | none => pvNo
    | .arr _ el => match ti P el with
      | some re => match fillV (fun i => some (i * re.size, re.size)) r.zero.vc parts with
        | some cs => (r.zero.fit = true, .agg cs)
        | none => pvNo
      | none => pvNo
    | _ => pvNo
  | none => pvNo

theorem pvBuild_ok {t : TypeId} {parts : List (Nat × V)} {xs : Array (Nat × Value)} (h2 : xs.toList.map (·.1) = parts.map (·.1)) (h3 : VList c (parts.map (·.2)) (xs.toList.map (·.2))) :
    Gives P c (Instr.build t xs) (pvBuild P t parts) := by
  unfold pvBuild
  split
  · rename_i r hr
    obtain ⟨i, d, z, hT⟩ := ti_some hr
    have fin : ∀ (place : Nat → Option (Nat × Nat)) (cs : List V), r.zero.fit = true → fillV place r.zero.vc parts = some cs → (∀ cells, Instr.fill place z.cells xs.toList = some cells → P.built t xs.toList = some cells) →
        ∃ x, (Instr.build t xs).run P c.w = .ok x c.w ∧ VRel c (.agg cs) x := by
      intro place cs hfit hf hb
      have hz : VList c r.zero.vc z.cells.toList := by
        rw [hT.zv] at hfit ⊢
        exact (ofZero_rel c z).vc hfit
      obtain ⟨cells, h4, h5⟩ := fillV_ok hz h2 h3 hf
      exact ⟨.agg cells, run_build _ _ _ _ (hb cells h4), by simp only [VRel]; exact ⟨cells, rfl, h5⟩⟩
    split
    · rename_i fs hk
      obtain ⟨gs, rfl, hfs⟩ := hT.struct hk
      split
      · rename_i places hp
        rw [hfs] at hp
        have hp' := pvPlaces_ok hp
        split
        · rename_i cs hcs
          intro hft
          refine fin _ cs hft hcs fun cells hc => ?_
          simp [Program.built, hT.info, hT.und, hT.zero, hp', hc]
        · exact Gives.no
      · exact Gives.no
    · rename_i n el hk
      have hd := hT.arr hk; subst hd
      split
      · rename_i re hre
        obtain ⟨ie, de, ze, hE⟩ := ti_some hre
        split
        · rename_i cs hcs
          intro hft
          refine fin _ cs hft hcs fun cells hc => ?_
          rw [hE.size] at hc
          simp [Program.built, hT.info, hT.und, hT.zero, hE.info, hc]
        · exact Gives.no
      · exact Gives.no
    · exact Gives.no
  · exact Gives.no

/-! ### A slice literal: data -/
def allFit (k : Nat) : List V → Bool
  | [] => true
  | v :: vs => v.fit && v.dat && (v.vc.length == k) && allFit k vs

def bsOk (P : Program) (t : TypeId) (len : Nat) (is : List Nat) (vs : List V) : PV :=
  match ti P t with
  | some r => match r.kind with
    | .slice el => match ti P el with
      | some re => (is = List.range len ∧ allFit re.size vs = true ∧ len * re.size ≤ 2 ^ 24 ∧ (len = 0 ∨ 0 < re.size), .is true re.size vs)
      | none => pvNo
    | _ => pvNo
  | none => pvNo

theorem fill_seq {k : Nat} : ∀ (xs : List Value) (i : Nat) (cells : Array Value), cells.size = (i + xs.length) * k → (∀ x ∈ xs, x.cells.size = k) →
    ∃ res, Instr.fill (fun j => some (j * k, k)) cells ((List.range' i xs.length).zip xs) = some res ∧ res.toList = cells.toList.take (i * k) ++ xs.flatMap (·.cells.toList)
  | [], i, cells, hs, _ => by
    refine ⟨cells, rfl, ?_⟩
    simp only [List.flatMap_nil, List.append_nil]
    rw [List.take_of_length_le]
    simp at hs ⊢; omega
  | x :: xs, i, cells, hs, hx => by
    have hxk := hx x (by simp)
    have hlen : (x :: xs).length = xs.length + 1 := rfl
    rw [hlen] at hs ⊢
    have e1 : (i + (xs.length + 1)) * k = i * k + k + xs.length * k := by
      rw [Nat.add_mul, Nat.add_mul]; omega
    have hyl : x.cells.toList.length = k := by simpa using hxk
    have hfold := foldl_set (i * k) x.cells.toList 0 cells (by rw [hyl]; omega)
    obtain ⟨cells', hc'⟩ : ∃ cells', x.cells.zipIdx.foldl (fun cs (p : Value × Nat) => cs.setIfInBounds (i * k + p.2) p.1) cells = cells' := ⟨_, rfl⟩
    have hcl : cells'.toList = cells.toList.take (i * k) ++ x.cells.toList ++ cells.toList.drop (i * k + k) := by
      rw [← hc', ← Array.foldl_toList, Array.toList_zipIdx, hfold, hyl]; simp
    have hsz' : cells'.size = ((i + 1) + xs.length) * k := by
      have : cells'.toList.length = cells.toList.length := by
        rw [hcl]; simp only [List.length_append, List.length_take, List.length_drop, hyl, Array.length_toList]; omega
      simp only [Array.length_toList] at this
      rw [this, hs]; congr 1; omega
    obtain ⟨res, h1, h2⟩ := fill_seq xs (i + 1) cells' hsz' (fun y hy => hx y (by simp [hy]))
    refine ⟨res, ?_, ?_⟩
    · rw [List.range'_succ, List.zip_cons_cons]
      simp only [Instr.fill]
      rw [if_neg (by simp only [ne_eq, Bool.or_eq_true, decide_eq_true_eq]; omega)]
      rw [hc']; exact h1
    · rw [h2, hcl]
      have e2 : (i + 1) * k = i * k + k := by rw [Nat.add_mul]; omega
      rw [e2]
      have e3 : (cells.toList.take (i * k)).length = i * k := by rw [List.length_take, Array.length_toList]; omega
      have e4 : (cells.toList.take (i * k) ++ x.cells.toList).length = i * k + k := by rw [List.length_append, e3, hyl]
      rw [List.take_append_of_le_length (by omega), List.take_of_length_le (by omega)]
      simp

theorem allFit_spec {k : Nat} : ∀ {vs : List V} {xs : List Value}, VList c vs xs → allFit k vs = true →
    (∀ x ∈ xs, x.cells.size = k) ∧ (∀ (i : Nat) (v : V) (x : Value), vs[i]? = some v → xs[i]? = some x → VRel c.data v x)
  | [], xs, h, _ => by simp only [VList] at h; subst h; simp
  | v :: vs, xs, h, hf => by
    simp only [VList] at h
    obtain ⟨y, ys, rfl, h1, h2⟩ := h
    simp only [allFit, Bool.and_eq_true, beq_iff_eq] at hf
    obtain ⟨⟨⟨f1, f2⟩, f3⟩, f4⟩ := hf
    obtain ⟨g1, g2⟩ := allFit_spec h2 f4
    refine ⟨fun x hx => ?_, fun i u x hu hx => ?_⟩
    · rcases List.mem_cons.1 hx with rfl | hx
      · have := (h1.vc f1).length
        rw [f3] at this; simpa using this
      · exact g1 x hx
    · cases i with
      | zero => simp at hu hx; subst hu; subst hx; exact h1.todata _ _ f2
      | succ i => exact g2 i u x (by simpa using hu) (by simpa using hx)

theorem flat_get {k : Nat} : ∀ {xs : List Value} (i : Nat) {x : Value}, (∀ x ∈ xs, x.cells.size = k) → xs[i]? = some x → ∀ j, j < k → (xs.flatMap (·.cells.toList))[i * k + j]? = x.cells[j]?
  | [], i, x, _, h, j, hj => by simp at h
  | y :: ys, i, x, hx, h, j, hj => by
    have hy := hx y (by simp)
    rw [List.flatMap_cons]
    cases i with
    | zero =>
      simp at h; subst h
      rw [List.getElem?_append_left (by simp; omega)]
      simp
    | succ i =>
      rw [List.getElem?_append_right (by rw [Nat.add_mul]; simp; omega)]
      have := flat_get (xs := ys) i (x := x) (fun z hz => hx z (by simp [hz])) (by simpa using h) j hj
      rw [← this]; congr 1
      rw [Nat.add_mul]; simp; omega

/-- Data in a row of one's own making. -/
theorem VElems.fresh {k : Nat} {vs : List V} {xs : List Value} (hs : HSim e ok pl h w) (hv : VList (cx ok pl w) vs xs) (hf : allFit k vs = true) {arr : Array Value} {el : TypeId} {fz : Nat × Nat} {b : Nat} {w' : World}
    (x : WExt w w') (hb : w.heap.size ≤ b) (ha : w'.heap[b]? = some (.cells arr el fz)) (hpre : ∀ i, i < (xs.flatMap (·.cells.toList)).length → arr[i]? = (xs.flatMap (·.cells.toList))[i]?) :
    VElems (cx ok pl w').data k vs b 0 := by
  obtain ⟨g1, g2⟩ := allFit_spec hv hf
  have hlen := hv.length
  refine VElems.of_get fun i v hi => ?_
  have hlt : i < vs.length := (List.getElem?_eq_some_iff.1 hi).1
  obtain ⟨y, hy⟩ : ∃ y, xs[i]? = some y := ⟨_, List.getElem?_eq_getElem (by omega)⟩
  have hyk := g1 y (List.mem_of_getElem? hy)
  refine ⟨y, hyk, fun j hj => ?_, ?_⟩
  · have hflat := flat_get i g1 hy j (by omega)
    refine ⟨⟨hs.fresh b hb, fun q hq => by have := hs.lt q b hq; omega⟩, ?_⟩
    have hj' : y.cells[j]? = some y.cells[j] := by simp [hj]
    have hin : i * k + j < (xs.flatMap (·.cells.toList)).length := by
      rw [hj'] at hflat
      exact (List.getElem?_eq_some_iff.1 hflat).1
    have := hpre _ hin
    rw [hflat] at this
    show w'.cell? _ = _
    simp only [World.cell?, ha, Nat.zero_add]
    simpa using this
  · have h1 := g2 i v y hi hy
    exact VRel.mono ((x.keeps hs).cext.data) _ _ h1

end
end Go.Abs
