/- Abstract values, heaps and frames over the calculus, part 30. -/
import Derived.Test.YtegnjoonhabicaaA29
import Derived.Shelf.SlSortCmp.Whole1
set_option linter.unusedVariables false
set_option linter.unusedSimpArgs false
namespace Go.Abs
open Go Go.RowKit Go.Proofs Go.Shelf Go.Sort
section
variable {e : E} {h : H} {ok : Nat → Prop} {pl : Nat → Option Nat} {w : World} {α : Type} [Inhabited α]

theorem putRow_heap_other (enc : α → Value) (w : World) (b off : Nat) (d : Array α) {i : Nat} (hi : i ≠ b) : (putRow enc w b off d).heap[i]? = w.heap[i]? := by
  simp only [putRow, mapBlock, Array.getElem?_modify]
  rw [if_neg (Ne.symm hi)]
theorem putRow_heap_same (enc : α → Value) (w : World) (b off : Nat) (d : Array α) {arr : Array Value} {el : TypeId} {fz : Nat × Nat} (hb : w.heap[b]? = some (.cells arr el fz)) :
    (putRow enc w b off d).heap[b]? = some (.cells (putCells enc off d arr) el fz) := by
  simp only [putRow, mapBlock, Array.getElem?_modify]
  simp only [if_true, hb]
  rfl
theorem putCells_take (enc : α → Value) (d : Array α) (arr : Array Value) (hl : d.size ≤ arr.size) : (putCells enc 0 d arr).toList.take d.size = d.toList.map enc := by
  apply List.ext_getElem?
  intro i
  rw [List.getElem?_take]
  simp only [List.getElem?_map, Array.getElem?_toList]
  by_cases hi : i < d.size
  · rw [if_pos hi]
    have hia : i < arr.size := by omega
    simp only [putCells, Array.getElem?_mapIdx, Array.getElem?_eq_getElem hia, Option.map_some, Nat.zero_le, Nat.zero_add, Nat.sub_zero, Array.getElem?_eq_getElem hi]
    rw [if_pos ⟨trivial, hi⟩, getElem!_pos d i hi]
  · rw [if_neg hi, Array.getElem?_eq_none (by omega)]
    rfl

theorem wext_grow (w : World) (os : Array Obj) : WExt w (Go.Sort.grow w os) :=
  ⟨rfl, rfl, rfl, by simp [Go.Sort.grow], fun b hb => by simp [Go.Sort.grow, Array.getElem?_append_left hb]⟩

/-- The row of a local object holds something else. -/
theorem row_world (hs : HSim e ok pl h w) {id b : Nat} (hb : pl id = some b) {arr : Array Value} {el : TypeId} {fz : Nat × Nat} (hw : w.heap[b]? = some (.cells arr el fz)) (hfz : ∀ j, j < arr.size → ¬ (fz.1 ≤ j ∧ j < fz.2))
    (enc : α → Value) (d' : Array α) (hl : d'.size ≤ arr.size) {cs' : List V} (hv : VList (cx ok pl w) cs' (d'.toList.map enc)) (n : Nat) (os : Array Obj) :
    HSim e ok pl (h.set id (.cells cs')) (sortWorld enc w b 0 n d' os) ∧ Keeps (fun _ => false) pl w pl (sortWorld enc w b 0 n d' os) := by
  have hlen := hv.length
  simp only [List.length_map, Array.length_toList] at hlen
  have hput := putRow_heap_same enc (Go.Sort.ahead w n) b 0 d' (arr := arr) (el := el) (fz := fz) hw
  have hsz : (putCells enc 0 d' arr).size = arr.size := by simp [putCells]
  obtain ⟨h1, h2⟩ := hs.upd (w' := putRow enc (Go.Sort.ahead w n) b 0 d') hb (.cells cs') rfl rfl rfl (by rw [Go.Sort.size_putRow]; rfl) (fun i hi => putRow_heap_other enc _ b 0 d' hi)
    (fun arr0 el0 fz0 h0 => ⟨putCells enc 0 d' arr, fz, by rw [hw] at h0; cases h0; exact hput, by rw [hw] at h0; cases h0; exact hsz⟩)
    (fun kx => ⟨putCells enc 0 d' arr, el, fz, hput, fun j hj => hfz j (by omega), by omega, by
      have : cs'.length = d'.size := by omega
      rw [this, putCells_take enc d' arr hl]
      exact VList.mono kx _ _ hv⟩)
  have x := wext_grow (putRow enc (Go.Sort.ahead w n) b 0 d') os
  have k := h2.trans (x.keeps h1)
  simp only [Bool.or_self] at k
  exact ⟨h1.wext x, k⟩

theorem _root_.Go.Abs.Reif.ls_more {id k len cap : Nat} {cs ex cs' es : List V} (hc : h[id]? = some (.cells (cs ++ ex))) (hr : Reifs e h cs cs') (hf : allFit k es = true) (hflat : es.flatMap V.vc = cs') (hlen : len = es.length) :
    Reif e h (.ls id k 0 len cap) (.is false k es) := by
  intro ok pl w x hs hv
  simp only [VRel] at hv ⊢
  obtain ⟨a, cp, rfl, h1, h2, h3, h4⟩ := hv
  refine ⟨a, cp, by rw [hlen], by omega, h3, fun hf => (by cases hf), ?_⟩
  rcases h4 with h4 | ⟨b, arr, el, fz, h5, h6, h7, h8⟩
  · exact .inl (List.length_eq_zero_iff.1 (by omega))
  · refine .inr ⟨b, 0, h6, ?_⟩
    obtain ⟨o, ho, hat⟩ := hs.obj id b h5
    rw [hc] at ho
    cases ho
    obtain ⟨arr', el', fz', h9, h10, h11, h12⟩ := hat
    have h13 : w.heap[b]? = some (.cells arr' el' fz') := h9
    have h14 := h12.take cs.length
    rw [List.take_left] at h14
    have := hr ok pl w _ hs h14
    rw [← hflat] at this
    exact elems_of_flat (hs.okl id b h5) h13 es 0 _ hf this fun j y hy => by
      rw [List.getElem?_take] at hy
      split at hy
      · rw [List.getElem?_take] at hy
        split at hy
        · simpa using hy
        · cases hy
      · cases hy
end
end Go.Abs
