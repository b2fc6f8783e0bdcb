/- Functions of the program, part 11. -/
import Derived.Test.YtegnjoonhabicaaF10
import Derived.Shelf.SlicesE.Delete
set_option linter.unusedVariables false
set_option linter.unusedSimpArgs false
set_option linter.unnecessarySimpa false
namespace Go.Proofs.Ytegnjoonhabicaa
open Go Go.Proofs Go.Abs Go.RowKit Go.Shelf Go.Lib

def delRen : Go.Shelf.Ren := ⟨fun | 45 => 36 | n => n, fun | 22 => 22 | 23 => 31 | 3 => 3 | 4 => 4 | 0 => 0 | n => n, fun | n => n⟩
theorem delL : Go.Proofs.SlLaysE.n45 Try.prog delRen where
  mixed := by kernel_rfl
  f45 := ⟨ "slices.Delete[[]patchbay/api.Clause,patchbay/api.Clause]", by decide, Try.func36.trans (congrArg some (by kernel_rfl))⟩
  t0 := Try.underlying0
  a0 := Try.isAgg0
  z0 := Try.sizeOf0
  v0 := Try.zeroValue0
  t3 := Try.underlying3
  a3 := Try.isAgg3
  z3 := Try.sizeOf3
  v3 := Try.zeroValue3
  t4 := Try.underlying4
  a4 := Try.isAgg4
  z4 := Try.sizeOf4
  v4 := Try.zeroValue4
  t22 := Try.underlying22
  a22 := Try.isAgg22
  z22 := Try.sizeOf22
  v22 := Try.zeroValue22
  a23 := Try.isAgg31
  z23 := Try.sizeOf31

abbrev Oc := {v : Value // v.oneCell' = true}
instance : Inhabited Oc := ⟨⟨.slice none 0 0, rfl⟩⟩
def encO (x : Oc) : Value := x.1

theorem ones_cls {c : C} : ∀ {l : List Cl} {xs : List Value}, VList c (l.map fun c => ints c) xs → ∀ x ∈ xs, x.oneCell' = true
  | [], xs, h, x, hx => by
    simp only [List.map_nil, VList] at h
    subst h; cases hx
  | a :: l, xs, h, x, hx => by
    simp only [List.map_cons, VList, VRel] at h
    obtain ⟨y, ys, rfl, ⟨a, cp, rfl, _⟩, h2⟩ := h
    cases hx with
    | head => rfl
    | tail _ hx => exact ones_cls h2 x hx

theorem delete_calls (l : List Cl) (i : Nat) (hi : i < l.length) (hlen : l.length ≤ 1000000) (id cap : Nat) (hcap : l.length ≤ cap) (h : H) (hh : h[id]? = some (.cells (l.map fun c => ints c))) (R : AEnd → H → (Nat → Bool) → Prop)
    (hr : R (.ret (.ls id 1 0 (l.length - 1) (l.length - 1))) (h.set id (.cells (((l.eraseIdx i).map fun c => ints c) ++ [.nils]))) (fun _ => false)) :
    ACalls TE 36 [.ls id 1 0 l.length cap, vi i, vi ((i + 1 : Nat) : Int)] h R := by
  intro ok pl w vs hs hl
  simp only [VList, VRel] at hl
  obtain ⟨y, ys, rfl, ⟨a, cp, rfl, h1, h2, h3, h4⟩, y2, ys2, rfl, rfl, y3, ys3, rfl, rfl, rfl⟩ := hl
  have hM : maxLen = 9223372036854775807 := rfl
  rcases h4 with h4 | ⟨b, arr, el, fz, hb, rfl, harr, hsz⟩
  · omega
  obtain ⟨o, ho, hat⟩ := hs.obj id b hb
  rw [hh] at ho; cases ho
  obtain ⟨arr2, el2, fz2, g1, g2, g3, g4⟩ := hat
  have harr' : w.heap[b]? = some (.cells arr el fz) := harr
  have g1' : w.heap[b]? = some (.cells arr2 el2 fz2) := g1
  rw [harr'] at g1'; cases g1'
  have hln : (l.map fun c => ints c).length = l.length := by simp
  rw [hln] at g3 g4
  have hone := ones_cls g4
  obtain ⟨d, hd⟩ : ∃ d : Array Oc, d.toList.map (·.1) = arr.toList.take l.length := ⟨((arr.toList.take l.length).attach.map fun x => ⟨x.1, hone x.1 x.2⟩).toArray, by simp⟩
  have hds : d.size = l.length := by
    have := congrArg List.length hd
    simp at this
    omega
  have hget : ∀ j, j < d.size → arr[j]? = some (encO d[j]!) := by
    intro j hj
    have e1 : (arr.toList.take l.length)[j]? = some (encO d[j]!) := by
      rw [← hd, List.getElem?_map, Array.getElem?_toList, Array.getElem?_eq_getElem hj, getElem!_pos d j hj]
      rfl
    rw [List.getElem?_take, if_pos (by omega)] at e1
    simpa using e1
  have hH : Go.Sort.Holds encO w b 0 d := by
    intro j hj
    refine ⟨?_, ?_⟩
    · simp only [World.cell?, harr', Nat.zero_add]
      exact hget j hj
    · simp only [World.frozen?, harr', Nat.zero_add]
      have := g2 j (by omega)
      simpa using this
  obtain ⟨i0, d0, z0, hT⟩ := ti_some (P := P) (t := 31) (r := { kind := K.slice 3, size := 1, bytes := 24, zero := V.nils }) rfl
  have hcon := AnyE.slices_Delete (P := Try.prog) delL encO (fun x => x.2) ⟨.slice none 0 0, rfl⟩ Try.zeroValue31 i0 hT.info hT.size.symm b 0 cp i (i + 1) d w hH (by omega) (by omega) (by omega) (by omega)
  rw [hds, show i + 1 - i = 1 by omega] at hcon
  change Calls Try.prog 36 _ _ _ at hcon
  refine Calls.mono hcon ?_
  rintro en w' ⟨rfl, q, rfl⟩
  have hlen2 : (d.toList.take i ++ d.toList.drop (i + 1) ++ List.replicate 1 (⟨.slice none 0 0, rfl⟩ : Oc)).toArray.size = l.length := by
    simp; omega
  have hv : VList (cx ok pl w) (((l.eraseIdx i).map fun c => ints c) ++ [.nils]) ((d.toList.take i ++ d.toList.drop (i + 1) ++ List.replicate 1 (⟨.slice none 0 0, rfl⟩ : Oc)).toArray.toList.map encO) := by
    have e0 : d.toList.map encO = arr.toList.take l.length := hd
    rw [List.eraseIdx_eq_take_drop_succ, List.map_append, List.map_append, List.map_append, List.map_take, List.map_drop, List.map_take, List.map_drop, e0]
    exact ((g4.take i).append (g4.dropN (i + 1))).append (by simp only [List.replicate_one, List.map_cons, List.map_nil, VList, VRel]; exact ⟨_, _, rfl, rfl, rfl⟩)
  obtain ⟨k1, k2⟩ := row_world hs hb harr' g2 encO _ (by rw [hlen2]; exact g3) hv q #[]
  have hw : sortWorld encO w b 0 q (d.toList.take i ++ d.toList.drop (i + 1) ++ List.replicate 1 (⟨.slice none 0 0, rfl⟩ : Oc)).toArray #[] = Go.Sort.putRow encO (Go.Sort.ahead w q) b 0 (d.toList.take i ++ d.toList.drop (i + 1) ++ List.replicate 1 (⟨.slice none 0 0, rfl⟩ : Oc)).toArray := by
    unfold sortWorld
    rw [Go.Sort.grow_empty]
  rw [hw] at k1 k2
  refine ⟨_, pl, _, .ret _, k1, k2, ?_, hr⟩
  simp only [EndRel, VRel]
  obtain ⟨arr3, fz3, q1, q2⟩ := k2.row b arr el fz harr'
  exact ⟨_, cp, rfl, by omega, by omega, h3, .inr ⟨b, arr3, el, fz3, hb, rfl, q1, by omega⟩⟩

end Go.Proofs.Ytegnjoonhabicaa
