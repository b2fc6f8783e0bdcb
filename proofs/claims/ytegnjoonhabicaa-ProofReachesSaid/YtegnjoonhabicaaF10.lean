/- Functions of the program, part 10. -/
import Derived.Test.YtegnjoonhabicaaF9
import Derived.Test.YtegnjoonhabicaaA9
import Derived.WalkKit
import Derived.Test.YtegnjoonhabicaaChecked
import Derived.Shelf.SlSortCmp.NoneTotal
set_option linter.unusedVariables false
set_option linter.unusedSimpArgs false
set_option linter.unnecessarySimpa false
namespace Go.Proofs.Ytegnjoonhabicaa
open Go Go.Proofs Go.Abs Go.RowKit Go.Shelf Go.Lib

def sortRen : Go.Shelf.Ren := ⟨fun | 6 => 25 | 15 => 49 | 14 => 48 | 28 => 70 | 29 => 71 | 20 => 62 | 21 => 63 | 22 => 64 | 23 => 65 | 24 => 66 | 25 => 67 | 26 => 68 | 27 => 69 | 46 => 73 | 47 => 74 | 48 => 75 | 49 => 76 | 50 => 77 | 57 => 78 | n => n, fun | 22 => 23 | 24 => 3 | 25 => 52 | 3 => 3 | 39 => 73 | 0 => 0 | 53 => 90 | 55 => 92 | 4 => 4 | 46 => 84 | 45 => 83 | 50 => 80 | 5 => 5 | 9 => 9 | 66 => 94 | 70 => 98 | 76 => 100 | 77 => 101 | n => n, fun | n => n⟩
theorem sortL : Go.Proofs.SlLaysF.n6 Try.prog sortRen where
  mixed := by kernel_rfl
  f6 := ⟨ "slices.SortFunc[[]int,int]", by decide, Try.func25.trans (congrArg some (by kernel_rfl))⟩
  f14 := ⟨ "slices.pdqsortCmpFunc[int]", by decide, Try.func48.trans (congrArg some (by kernel_rfl))⟩
  f15 := Try.func49.trans (congrArg some (by kernel_rfl))
  f20 := ⟨ "slices.insertionSortCmpFunc[int]", by decide, Try.func62.trans (congrArg some (by kernel_rfl))⟩
  f21 := ⟨ "slices.heapSortCmpFunc[int]", by decide, Try.func63.trans (congrArg some (by kernel_rfl))⟩
  f22 := ⟨ "slices.breakPatternsCmpFunc[int]", by decide, Try.func64.trans (congrArg some (by kernel_rfl))⟩
  f23 := ⟨ "slices.choosePivotCmpFunc[int]", by decide, Try.func65.trans (congrArg some (by kernel_rfl))⟩
  f24 := ⟨ "slices.reverseRangeCmpFunc[int]", by decide, Try.func66.trans (congrArg some (by kernel_rfl))⟩
  f25 := ⟨ "slices.partialInsertionSortCmpFunc[int]", by decide, Try.func67.trans (congrArg some (by kernel_rfl))⟩
  f26 := ⟨ "slices.partitionEqualCmpFunc[int]", by decide, Try.func68.trans (congrArg some (by kernel_rfl))⟩
  f27 := ⟨ "slices.partitionCmpFunc[int]", by decide, Try.func69.trans (congrArg some (by kernel_rfl))⟩
  f28 := Try.func70.trans (congrArg some (by kernel_rfl))
  f29 := Try.func71.trans (congrArg some (by kernel_rfl))
  f46 := ⟨ "slices.siftDownCmpFunc[int]", by decide, Try.func73.trans (congrArg some (by kernel_rfl))⟩
  f47 := Try.func74.trans (congrArg some (by kernel_rfl))
  f48 := Try.func75.trans (congrArg some (by kernel_rfl))
  f49 := ⟨ "slices.medianAdjacentCmpFunc[int]", by decide, Try.func76.trans (congrArg some (by kernel_rfl))⟩
  f50 := ⟨ "slices.medianCmpFunc[int]", by decide, Try.func77.trans (congrArg some (by kernel_rfl))⟩
  f57 := ⟨ "slices.order2CmpFunc[int]", by decide, Try.func78.trans (congrArg some (by kernel_rfl))⟩
  t0 := Try.underlying0
  a0 := Try.isAgg0
  z0 := Try.sizeOf0
  v0 := Try.zeroValue0
  t3 := Try.underlying3
  a3 := Try.isAgg3
  z3 := Try.sizeOf3
  v3 := Try.zeroValue3
  t4 := Try.underlying4
  a4 := Try.isAgg4
  z4 := Try.sizeOf4
  v4 := Try.zeroValue4
  t5 := Try.underlying5
  a5 := Try.isAgg5
  z5 := Try.sizeOf5
  v5 := Try.zeroValue5
  t9 := Try.underlying9
  a9 := Try.isAgg9
  z9 := Try.sizeOf9
  v9 := Try.zeroValue9
  t22 := Try.underlying23
  a22 := Try.isAgg23
  z22 := Try.sizeOf23
  v22 := Try.zeroValue23
  a24 := Try.isAgg3
  z24 := Try.sizeOf3
  t25 := Try.underlying52
  a25 := Try.isAgg52
  z25 := Try.sizeOf52
  v25 := Try.zeroValue52
  t39 := Try.underlying73
  a39 := Try.isAgg73
  z39 := Try.sizeOf73
  v39 := Try.zeroValue73
  t45 := Try.underlying83
  a45 := Try.isAgg83
  z45 := Try.sizeOf83
  v45 := Try.zeroValue83
  t46 := Try.underlying84
  a46 := Try.isAgg84
  z46 := Try.sizeOf84
  v46 := Try.zeroValue84
  t50 := Try.underlying80
  a50 := Try.isAgg80
  z50 := Try.sizeOf80
  v50 := Try.zeroValue80
  t53 := Try.underlying90
  a53 := Try.isAgg90
  z53 := Try.sizeOf90
  v53 := Try.zeroValue90
  t55 := Try.underlying92
  a55 := Try.isAgg92
  z55 := Try.sizeOf92
  v55 := Try.zeroValue92
  t66 := Try.underlying94
  a66 := Try.isAgg94
  z66 := Try.sizeOf94
  v66 := Try.zeroValue94
  t70 := Try.underlying98
  a70 := Try.isAgg98
  z70 := Try.sizeOf98
  v70 := Try.zeroValue98
  t76 := Try.underlying100
  a76 := Try.isAgg100
  z76 := Try.sizeOf100
  v76 := Try.zeroValue100
  t77 := Try.underlying101
  a77 := Try.isAgg101
  z77 := Try.sizeOf101
  v77 := Try.zeroValue101

abbrev Bi := {x : Int // -20000 ≤ x ∧ x ≤ 20000}
instance : Inhabited Bi := ⟨⟨0, by omega⟩⟩
def encB (x : Bi) : Value := .int .i64 x.1
def absI (x : Int) : Int := max x (-x)
def cfB (x y : Bi) : Int := absI x.1 - absI y.1

theorem cmp_calls (x y : Bi) (w : World) : Calls Try.prog 26 #[encB x, encB y] w fun e w' => e = .returned (.int .i64 (cfB x y)) ∧ ∃ q, w' = w.drewN q := by
  obtain ⟨x, hx⟩ := x
  obtain ⟨y, hy⟩ := y
  show Calls Try.prog 26 #[.int .i64 x, .int .i64 y] w fun e w' => e = .returned (.int .i64 (absI x - absI y)) ∧ ∃ q, w' = w.drewN q
  go_enter Try.func26, Try.ntmps26
  go_wp2
  go_ret
  exact ⟨rfl, 0, rfl⟩

theorem ltB (x y : Bi) : ltOf cfB x y = decide (absI x.1 < absI y.1) := by
  unfold ltOf cfB
  congr 1
  exact propext (by omega)
theorem swoB : Go.Sort.SWO (ltOf cfB) where
  irrefl x := by rw [ltB]; simp
  trans x y z h1 h2 := by rw [ltB] at *; simp at *; omega
  ntrans x y z h1 h2 := by rw [ltB] at *; simp at *; omega

theorem vals_vi {c : C} : ∀ {l : Cl} {xs : List Value}, VList c (l.map vi) xs → xs = l.map (Value.int .i64)
  | [], xs, h => by simpa only [List.map_nil, VList] using h
  | a :: l, xs, h => by
    simp only [List.map_cons, VList, VRel] at h
    obtain ⟨y, ys, rfl, rfl, h2⟩ := h
    rw [vals_vi h2]; rfl
theorem vi_vals {c : C} : ∀ {l : Cl}, VList c (l.map vi) (l.map (Value.int .i64))
  | [] => by simp only [List.map_nil, VList]
  | a :: l => by
    simp only [List.map_cons, VList, VRel]
    exact ⟨_, _, rfl, rfl, vi_vals⟩

theorem sort_calls (c : Cl) (hc : ∀ a ∈ c, -20000 ≤ a ∧ a ≤ 20000) (hne : c ≠ []) (hlen : c.length ≤ 1000000) (id cap : Nat) (h : H) (hh : h[id]? = some (.cells (c.map vi))) (R : AEnd → H → (Nat → Bool) → Prop)
    (hr : ∀ c' : Cl, c'.Perm c → c'.Pairwise (fun x y => absI x ≤ absI y) → R (.ret (.tup [])) (h.set id (.cells (c'.map vi))) (fun _ => false)) :
    ACalls TE 25 [.ls id 1 0 c.length cap, .fn (.func 26) [] []] h R := by
  intro ok pl w vs hs hl
  simp only [VList, VRel] at hl
  obtain ⟨y, ys, rfl, ⟨a, cp, rfl, h1, h2, h3, h4⟩, y2, ys2, rfl, ⟨fs, cs, rfl, h5, h6⟩, rfl⟩ := hl
  have hfs : fs = #[] := Array.toList_inj.1 h5
  have hcs : cs = #[] := Array.toList_inj.1 h6
  subst hfs; subst hcs
  have hpos : 0 < c.length := List.length_pos_iff.2 hne
  rcases h4 with h4 | ⟨b, arr, el, fz, hb, rfl, harr, hsz⟩
  · omega
  obtain ⟨o, ho, hat⟩ := hs.obj id b hb
  rw [hh] at ho; cases ho
  obtain ⟨arr2, el2, fz2, g1, g2, g3, g4⟩ := hat
  have harr' : w.heap[b]? = some (.cells arr el fz) := harr
  have g1' : w.heap[b]? = some (.cells arr2 el2 fz2) := g1
  rw [harr'] at g1'; cases g1'
  have hv := vals_vi g4
  have hln : (c.map vi).length = c.length := by simp
  rw [hln] at hv g3
  obtain ⟨d, hd⟩ : ∃ d : Array Bi, d.toList.map (·.1) = c := ⟨(c.attach.map fun x => ⟨x.1, hc x.1 x.2⟩).toArray, by simp⟩
  have hds : d.size = c.length := by rw [← hd]; simp
  have hget : ∀ j, j < d.size → arr[j]? = some (encB d[j]!) := by
    intro j hj
    have e1 : (arr.toList.take c.length)[j]? = some (encB d[j]!) := by
      rw [hv, ← hd, List.getElem?_map, List.getElem?_map, Array.getElem?_toList, Array.getElem?_eq_getElem hj, getElem!_pos d j hj]
      rfl
    rw [List.getElem?_take, if_pos (by omega)] at e1
    simpa using e1
  have hH : Go.Sort.Holds encB w b 0 d := by
    intro j hj
    refine ⟨?_, ?_⟩
    · simp only [World.cell?, harr', Nat.zero_add]
      exact hget j hj
    · simp only [World.frozen?, harr', Nat.zero_add]
      have := g2 j (by omega)
      simpa using this
  have hcon := Any.slices_SortFunc (P := Try.prog) sortL encB (fun _ => rfl) cfB swoB 26 #[] b 0 cp d w (enters_of Try.func26 (by kernel_rfl) rfl)
    (CmpReads.lays fun m os dk _ x y => cmp_calls x y _) hH (lt_of_heap harr') (by omega)
  rw [hds] at hcon
  change Calls Try.prog 25 _ _ _ at hcon
  refine Calls.mono hcon ?_
  rintro en w' ⟨rfl, d', n, os, hp, hsrt, rfl⟩
  have hds' : d'.size = d.size := hp.1
  have hperm : d'.toList.Perm d.toList := by
    have := hp.2.2
    have e1 : (d'.extract 0 c.length).toList = d'.toList := by rw [show c.length = d'.size by omega, Array.extract_size]
    have e2 : (d.extract 0 c.length).toList = d.toList := by rw [show c.length = d.size by omega, Array.extract_size]
    rw [e1, e2] at this
    exact this
  have hpc : (d'.toList.map (·.1)).Perm c := by rw [← hd]; exact hperm.map _
  have hpw : (d'.toList.map (·.1)).Pairwise (fun x y => absI x ≤ absI y) := by
    rw [List.pairwise_map, List.pairwise_iff_getElem]
    intro i j hi hj hij
    have := hsrt i j (Nat.zero_le _) hij (by simp at hj; omega)
    rw [ltB, getElem!_pos d' j (by simpa using hj), getElem!_pos d' i (by simpa using hi)] at this
    simp at this ⊢
    omega
  obtain ⟨k1, k2⟩ := row_world hs hb harr' g2 encB d' (by omega) (cs' := (d'.toList.map (·.1)).map vi) (by
    have := vi_vals (c := cx ok pl w) (l := d'.toList.map (·.1))
    rw [List.map_map] at this ⊢
    rw [List.map_map] at this
    exact this) n os
  exact ⟨_, pl, _, .ret (.tup []), k1, k2, by simp only [EndRel, VRel, VList]; exact ⟨#[], rfl, rfl⟩, hr _ hpc hpw⟩

theorem sort_none (R : AEnd → H → (Nat → Bool) → Prop) (h : H) (hr : R (.ret (.tup [])) h (fun _ => false)) : ACalls TE 25 [.nils, .fn (.func 26) [] []] h R := by
  intro ok pl w vs hs hl
  simp only [VList, VRel] at hl
  obtain ⟨y, ys, rfl, rfl, y2, ys2, rfl, ⟨fs, cs, rfl, h5, h6⟩, rfl⟩ := hl
  have hcon := AnyF.slices_SortFunc_none (P := Try.prog) { sortL with } none 0 (.func (.func 26) fs cs) w
  change Calls Try.prog 25 _ _ _ at hcon
  refine Calls.mono hcon ?_
  rintro en w' ⟨rfl, rfl⟩
  exact ⟨_, pl, h, .ret (.tup []), hs, Keeps.refl pl w', by simp only [EndRel, VRel, VList]; exact ⟨#[], rfl, rfl⟩, hr⟩

end Go.Proofs.Ytegnjoonhabicaa
