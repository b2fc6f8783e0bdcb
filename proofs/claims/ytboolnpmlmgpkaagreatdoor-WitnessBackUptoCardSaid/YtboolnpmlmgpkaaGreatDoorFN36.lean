/- Functions of the program, part N36. -/
import Derived.Test.YtboolnpmlmgpkaaGreatDoorF18
import Derived.Test.YtboolnpmlmgpkaaGreatDoorFN20
import Derived.Deep.DeepWitnessRowRef
set_option linter.unusedVariables false
set_option maxRecDepth 20000
set_option linter.unusedSimpArgs false
set_option linter.unnecessarySimpa false
namespace Go.Proofs.YtboolnpmlmgpkaaGreatDoor
open Go Go.Proofs Go.Abs Go.RowKit

/-! ### What a bound of the bulk gives -/
theorem bulk_mem {H : Type} {d : DataW H} : ∀ {l : List (DataW H)}, d ∈ l → Rows.uptoBulk d ≤ Rows.uptoBulkAll l
  | x :: r, h => by
    simp only [Rows.uptoBulkAll]
    rcases List.mem_cons.1 h with rfl | h
    · omega
    · have := bulk_mem h; omega
theorem bulk_pos {H : Type} (d : DataW H) : 1 ≤ Rows.uptoBulk d := by
  cases d with
  | lit l => cases l <;> simp [Rows.uptoBulk]
  | nil => simp [Rows.uptoBulk]
  | ptr d => simp [Rows.uptoBulk]
  | slice elems spare => simp [Rows.uptoBulk]
  | agg parts => simp [Rows.uptoBulk]
  | iface t d => simp [Rows.uptoBulk]
  | map entries => simp [Rows.uptoBulk]
  | held h => simp [Rows.uptoBulk]
theorem bulk_len {H : Type} : ∀ l : List (DataW H), l.length ≤ Rows.uptoBulkAll l
  | [] => by simp [Rows.uptoBulkAll]
  | x :: r => by
    have := bulk_pos x
    have := bulk_len r
    simp only [Rows.uptoBulkAll, List.length_cons]
    omega
def bulkM (H : Type) : Meas H Tryz.prog 1048576 where
  L _ d := Rows.uptoBulk d ≤ 1048576
  str t b h := by
    simp only [Rows.uptoBulk] at h
    omega
  sl t u es rs _ _ h := by
    simp only [Rows.uptoBulk] at h
    have := bulk_len es
    refine ⟨by omega, fun d hd => ?_⟩
    have := bulk_mem hd
    show Rows.uptoBulk d ≤ 1048576
    omega
  st t fs ds _ h i d f hd _ := by
    simp only [Rows.uptoBulk] at h
    have := bulk_mem (List.mem_of_getElem? hd)
    show Rows.uptoBulk d ≤ 1048576
    omega
theorem bulk_parts {H : Type} {ds gs : List (DataW H)} {ts : List TypeId} (h : Rows.uptoSmall H (ds ++ gs) = true) : ∀ (i : Nat) d t, ds[i]? = some d → ts[i]? = some t → (bulkM H).L t d := fun i d t hd _ => by
  have h1 : Rows.uptoBulkAll (ds ++ gs) ≤ 1048576 := of_decide_eq_true h
  have := bulk_mem (l := ds ++ gs) (List.mem_append_left gs (List.mem_of_getElem? hd))
  show Rows.uptoBulk d ≤ 1048576
  omega
theorem szs_map2 {R : Nat} {e : Sh} {α : Type} {F : α → V} {Pr : α → Prop} (he : ∀ v, Sh.Sz R e v → ∃ a, v = F a ∧ Pr a) : ∀ es : List V, (∀ x ∈ es, Sh.Sz R e x) → ∃ l : List α, es = l.map F ∧ ∀ a ∈ l, Pr a
  | [], _ => ⟨[], rfl, by simp⟩
  | x :: es, h => by
    obtain ⟨a, rfl, ha⟩ := he x (h x (by simp))
    obtain ⟨l, rfl, hl⟩ := szs_map2 he es fun y hy => h y (by simp [hy])
    exact ⟨a :: l, rfl, fun y hy => by
      rcases List.mem_cons.1 hy with rfl | hy
      · exact ha
      · exact hl y hy⟩
theorem sz_wi2 {R : Nat} {v : V} (h : Sh.Sz R shWi v) : ∃ w : Wi, v = w.v ∧ w.st.length ≤ R ∧ w.steps.length ≤ R ∧ ∀ l ∈ w.steps, l.length ≤ R := by
  unfold shWi at h
  rw [Sh.Sz] at h
  obtain ⟨vs, rfl, h⟩ := h
  simp only [Sh.Szs] at h
  obtain ⟨u0, us, rfl, h0, u1, us, rfl, h1, u2, us, rfl, h2, rfl⟩ := h
  obtain ⟨n, rfl, _⟩ := sz_int h0
  obtain ⟨a, rfl, ha⟩ := sz_ints h1
  unfold shCls at h2
  rw [Sh.Sz] at h2
  obtain ⟨es, rfl, hl, h2⟩ := h2
  obtain ⟨l, rfl, hl2⟩ := szs_map2 (F := fun c => ints c) (Pr := fun c : Cl => c.length ≤ R) (fun v hv => by obtain ⟨n, rfl, h⟩ := sz_ints hv; exact ⟨n, rfl, h⟩) es h2
  exact ⟨⟨n, a, l⟩, rfl, ha, by simpa using hl, hl2⟩
theorem flat_bulk {w : Wi} (h : w.st.length ≤ 1048576 ∧ w.steps.length ≤ 1048576 ∧ ∀ l ∈ w.steps, l.length ≤ 1048576) : ((w.st :: w.steps).flatMap lineW).length ≤ 2000000000000 := by
  obtain ⟨h1, h2, h3⟩ := h
  have : ∀ l : List Cl, (∀ x ∈ l, x.length ≤ 1048576) → (l.flatMap lineW).length ≤ l.length * 1048577 := fun l => by
    induction l with
    | nil => simp
    | cons a l ih =>
      intro hl
      have := ih fun x hx => hl x (by simp [hx])
      have := hl a (by simp)
      simp only [List.flatMap_cons, List.length_append, lineW, List.length_map, List.length_cons, List.length_nil]
      omega
  have := this (w.st :: w.steps) (fun x hx => by
    rcases List.mem_cons.1 hx with rfl | hx
    · exact h1
    · exact h3 x hx)
  simp only [List.length_cons] at this
  omega

end Go.Proofs.YtboolnpmlmgpkaaGreatDoor
