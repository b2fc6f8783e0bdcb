/- Functions of the program, part 12. -/
import Derived.Test.YtboolnpmlmgpkaaGreatDoorF08
import Derived.Test.YtboolnpmlmgpkaaGreatDoorA10
set_option linter.unusedVariables false
set_option maxRecDepth 20000
set_option linter.unusedSimpArgs false
set_option linter.unnecessarySimpa false
namespace Go.Proofs.YtboolnpmlmgpkaaGreatDoor
open Go Go.Proofs Go.Abs

/-- Where a number goes. -/
def Gr.rnum (g : Gr) (v : Int) : Int := if 1 ≤ v ∧ v ≤ g.ins then g.ins + 1 - v else if g.ins < v ∧ v ≤ g.ins + g.next.length then 2 * g.ins + g.next.length + 1 - v else v
def Gr.ren (g : Gr) (l : Int) : Int := 2 * g.rnum (l / 2) + l % 2

theorem ev_renum (g : Gr) (l : Int) (h0 : 0 ≤ l) (h1 : l ≤ 1000000) (h2 : 0 ≤ g.ins) (h3 : g.ins ≤ 4000) (h4 : g.next.length ≤ 4000) : Ev TE 125 [g.v, vi l] (vi (g.ren l)) := by
  have hr : g.ren l = 2 * g.rnum (l / 2) + l % 2 := rfl
  unfold Gr.rnum at hr
  unfold Gr.v
  have q1 : IntKind.i64.wrap (l.tdiv 2) = l / 2 := by rw [Int.tdiv_eq_ediv_of_nonneg h0, wrap64 (by omega) (by omega)]
  have q2 : l.tmod 2 = l % 2 := Int.tmod_eq_emod_of_nonneg h0
  have w0 : IntKind.i64.wrap (g.ins + (g.next.length : Int)) = g.ins + (g.next.length : Int) := wrap64 (by omega) (by omega)
  have w1 : IntKind.i64.wrap (g.ins + 1) = g.ins + 1 := wrap64 (by omega) (by omega)
  have w2 : IntKind.i64.wrap (g.ins + 1 - l / 2) = g.ins + 1 - l / 2 := wrap64 (by omega) (by omega)
  have w3 : IntKind.i64.wrap (2 * g.ins) = 2 * g.ins := wrap64 (by omega) (by omega)
  have w4 : IntKind.i64.wrap (2 * g.ins + (g.next.length : Int)) = 2 * g.ins + (g.next.length : Int) := wrap64 (by omega) (by omega)
  have w5 : IntKind.i64.wrap (2 * g.ins + (g.next.length : Int) + 1) = 2 * g.ins + (g.next.length : Int) + 1 := wrap64 (by omega) (by omega)
  have w6 : IntKind.i64.wrap (2 * g.ins + (g.next.length : Int) + 1 - l / 2) = 2 * g.ins + (g.next.length : Int) + 1 - l / 2 := wrap64 (by omega) (by omega)
  have w7 : ∀ v : Int, -2000000 ≤ v → v ≤ 2000000 → IntKind.i64.wrap (2 * v) = 2 * v := fun v a b => wrap64 (by omega) (by omega)
  have w8 : ∀ v : Int, -2000000 ≤ v → v ≤ 2000000 → IntKind.i64.wrap (2 * v + l % 2) = 2 * v + l % 2 := fun v a b => wrap64 (by omega) (by omega)
  have n2 : ((2 : Int) ≠ 0) := by decide
  by_cases hA : 1 ≤ l / 2 ∧ l / 2 ≤ g.ins
  · rw [if_pos hA] at hr
    rw [hr]
    have e1 : decide (1 ≤ l / 2) = true := by simpa using hA.1
    have e2 : decide (l / 2 ≤ g.ins) = true := by simpa using hA.2
    have v1 := w7 (g.ins + 1 - l / 2) (by omega) (by omega)
    have v2 := w8 (g.ins + 1 - l / 2) (by omega) (by omega)
    refine Ev.of_awp Tryz.func125 rfl (by simp [nts]) (vc_ok mixed _ _ _ _ ?_)
    simp only [sz.down, ↓reduceIte, Nat.reduceEqDiff, Nat.reduceLT, Nat.reduceLeDiff, Nat.reduceAdd, reduceCtorEq, TEP, tis, nts, Tryz.results125, q1, q2, e1, e2, w1, w2, v1, v2]
    exact ⟨n2, n2, Reif.dat rfl⟩
  · rw [if_neg hA] at hr
    by_cases hB : g.ins < l / 2 ∧ l / 2 ≤ g.ins + g.next.length
    · rw [if_pos hB] at hr
      rw [hr]
      have e1 : decide (1 ≤ l / 2) = true := by simp only [decide_eq_true_eq]; omega
      have e2 : decide (l / 2 ≤ g.ins) = false := by simp only [decide_eq_false_iff_not]; omega
      have e3 : decide (g.ins < l / 2) = true := by simpa using hB.1
      have e4 : decide (l / 2 ≤ g.ins + (g.next.length : Int)) = true := by simpa using hB.2
      have v1 := w7 (2 * g.ins + (g.next.length : Int) + 1 - l / 2) (by omega) (by omega)
      have v2 := w8 (2 * g.ins + (g.next.length : Int) + 1 - l / 2) (by omega) (by omega)
      refine Ev.of_awp Tryz.func125 rfl (by simp [nts]) (vc_ok mixed _ _ _ _ ?_)
      simp only [sz.down, ↓reduceIte, Nat.reduceEqDiff, Nat.reduceLT, Nat.reduceLeDiff, Nat.reduceAdd, reduceCtorEq, TEP, tis, nts, Tryz.results125, q1, q2, e1, e2, e3, e4, w0, w3, w4, w5, w6, v1, v2]
      exact ⟨n2, n2, Reif.dat rfl⟩
    · rw [if_neg hB] at hr
      rw [hr]
      have v1 := w7 (l / 2) (by omega) (by omega)
      have v2 := w8 (l / 2) (by omega) (by omega)
      refine Ev.of_awp Tryz.func125 rfl (by simp [nts]) (vc_ok mixed _ _ _ _ ?_)
      cases e1 : decide (1 ≤ l / 2) with
      | false =>
        have e3 : decide (g.ins < l / 2) = false := by simp only [decide_eq_false_iff_not] at e1 ⊢; omega
        simp only [sz.down, ↓reduceIte, Nat.reduceEqDiff, Nat.reduceLT, Nat.reduceLeDiff, Nat.reduceAdd, TEP, tis, nts, Tryz.results125, q1, q2, e1, e3, w0, v1, v2]
        exact ⟨n2, n2, Reif.dat rfl⟩
      | true =>
        have e2 : decide (l / 2 ≤ g.ins) = false := by simp only [decide_eq_true_eq, decide_eq_false_iff_not] at e1 ⊢; omega
        have e3 : decide (g.ins < l / 2) = true := by simp only [decide_eq_true_eq, decide_eq_false_iff_not] at e2 ⊢; omega
        have e4 : decide (l / 2 ≤ g.ins + (g.next.length : Int)) = false := by simp only [decide_eq_true_eq, decide_eq_false_iff_not] at e3 ⊢; omega
        simp only [sz.down, ↓reduceIte, Nat.reduceEqDiff, Nat.reduceLT, Nat.reduceLeDiff, Nat.reduceAdd, reduceCtorEq, TEP, tis, nts, Tryz.results125, q1, q2, e1, e2, e3, e4, w0, v1, v2]
        exact ⟨n2, n2, Reif.dat rfl⟩

theorem ev_turned (l : List S) (hl : l.length ≤ 1000000) : Ev TE 126 [strs l] (strs l.reverse) := by
  have hM : maxLen = 9223372036854775807 := rfl
  have w1 : IntKind.i64.wrap ((l.length : Int) - 1) = (l.length : Int) - 1 := wrap64 (by omega) (by omega)
  refine Ev.of_awp Tryz.func126 rfl (by simp [nts]) (vc_ok mixed _ _ _ _ ?_)
  simp only [sz.down, ↓reduceIte, Nat.reduceLT, reduceCtorEq, TEP, tis, nts, Tryz.results126, w1]
  refine awp_bareAt 3 1 (by simp only [sz.down, ↓reduceIte, Nat.reduceEqDiff]) ?_
  refine awp_loop (fun m f h => ∃ (j : Nat) (cs : List V), m + j = l.length ∧ f.t 0 = strs l ∧ f.t 3 = .ls 0 1 0 j j ∧ f.t 4 = vi ((l.length : Int) - 1 - j) ∧ f.d = [] ∧ cs = (l.reverse.take j).map V.str ∧ h = [.cells cs]) l.length
    ⟨0, [], by omega, by simp only [sz.down, ↓reduceIte, reduceCtorEq], by simp only [sz.down, ↓reduceIte], by (simp only [sz.down, ↓reduceIte, Nat.reduceEqDiff]; try simp), by simp only [sz.down], rfl, rfl⟩ ?_
  rintro m f h ⟨j, cs, hm, h0, h3, h4, hd, hcs, rfl⟩
  have hcl : j ≤ l.length → cs.length = j := fun hi => by rw [hcs, List.length_map, List.length_take, List.length_reverse]; omega
  have hdc : ∀ p, V.drops p cs = cs := fun p => by rw [hcs]; exact drops_strs
  refine vc_ok mixed _ _ _ _ ?_
  simp only [sz.down, ↓reduceIte, Nat.reduceLT, TEP, h4]
  refine vcB.mk (fun hc => ?_) (fun hc => ?_)
  · simp only [decide_eq_true_eq] at hc
    have hj : j < l.length := by omega
    obtain ⟨p, hp⟩ : ∃ p : Nat, p = l.length - 1 - j := ⟨_, rfl⟩
    have hpl : p < l.length := by omega
    have e : (l.length : Int) - 1 - j = (p : Int) := by omega
    have w2 : IntKind.i64.wrap ((p : Int) - 1) = (l.length : Int) - 1 - ((j + 1 : Nat) : Int) := by rw [wrap64 (by omega) (by omega)]; omega
    have hcl' := hcl (by omega)
    rw [e] at h4 ⊢
    simp only [sz.down, ↓reduceIte, Nat.reduceEqDiff, Nat.reduceLT, reduceCtorEq, Nat.reduceMul, TEP, tis, h0, h3, h4, hd, getS hpl, hdc, w2]
    refine ⟨⟨by omega, by omega⟩, ⟨rfl, by decide⟩, ⟨by omega, by omega, by omega⟩, .inl ⟨m - 1, by omega, j + 1, _, by omega, by simp only [sz.down, ↓reduceIte, reduceCtorEq, h0], by simp only [sz.down, ↓reduceIte, Nat.reduceEqDiff], by simp only [sz.down, ↓reduceIte], by simp only [sz.down, hd], ?_, rfl⟩⟩
    have hjr : j < l.reverse.length := by rw [List.length_reverse]; exact hj
    have hg : l.reverse[j] = l[p] := by rw [List.getElem_reverse]; congr 1; exact hp.symm
    rw [hcs, show l.reverse.take (j + 1) = l.reverse.take j ++ [l.reverse[j]] by rw [List.take_add_one, List.getElem?_eq_getElem hjr]; rfl, List.map_append, hg]
    rfl
  · simp only [decide_eq_false_iff_not] at hc
    have hj : j = l.length := by omega
    simp only [sz.down, ↓reduceIte, Nat.reduceEqDiff, Nat.reduceLT, TEP, h3, hd]
    have : l.reverse.take j = l.reverse := List.take_of_length_le (by rw [List.length_reverse]; omega)
    rw [this] at hcs
    exact Reif.ls_strs (by rw [hcs]; rfl) (by rw [List.length_reverse]; exact hj)

end Go.Proofs.YtboolnpmlmgpkaaGreatDoor

set_option linter.unusedVariables false
set_option maxRecDepth 20000
set_option linter.unusedSimpArgs false
set_option linter.unnecessarySimpa false
namespace Go.Proofs.YtboolnpmlmgpkaaGreatDoor
open Go Go.Proofs Go.Abs

/-- A graph the other way round. -/
def Gr.mir (g : Gr) : Gr := ⟨g.ins, g.next.reverse.map g.ren, g.init.reverse, g.ands.map fun p => (g.ren p.1, g.ren p.2), g.outs.reverse.map g.ren⟩
def Mo.mir (m : Mo) : Mo := ⟨m.g.mir, m.ins.reverse, m.lat.reverse, m.out.reverse⟩

set_option maxHeartbeats 8000000 in
theorem ev_mirror (m : Mo) (hc : m.g.chk = 0) (b1 : m.ins.length ≤ 4000) (b2 : m.lat.length ≤ 4000) (b3 : m.out.length ≤ 4000) : Ev TE 51 [m.v] m.mir.v := by
  have hM : maxLen = 9223372036854775807 := rfl
  obtain ⟨_, i0, i1, i2, i3, i4, i5⟩ := Gr.ok_of hc
  unfold Mo.v
  refine Ev.of_awp Tryz.func51 rfl (by simp [nts]) ?_
  
  refine awp_seq (vc_ok mixed _ _ _ _ ?_)
  simp only [sz.down, Nat.reduceLT, TEP, tis, nts, Tryz.results51]
  refine awp_seq (vc_ok mixed _ _ _ _ ?_)
  simp only [sz.down, ↓reduceIte, Nat.reduceEqDiff, Nat.reduceLT, Nat.reduceLeDiff, Nat.reduceAdd, TEP, tis]
  obtain ⟨RC, hRC⟩ : ∃ RC : O, RC = .cells [vi 0, .nils, .nils, .nils, .nils, .nils, .nils, .nils] := ⟨_, rfl⟩
  obtain ⟨MM, hMM⟩ : ∃ MM : O, MM = O.cells [vi m.g.ins, ints m.g.next, ints m.g.init, prs m.g.ands, ints m.g.outs, strs m.ins, strs m.lat, strs m.out] := ⟨_, rfl⟩
  obtain ⟨HH, hHH⟩ : ∃ HH : Nat → Nat → Nat → List V → List V → List V → List V → H, HH = fun n1 n3 n4 c1 c2 c3 c4 => [O.cells [vi m.g.ins, ints m.g.next, ints m.g.init, prs m.g.ands, ints m.g.outs, strs m.ins, strs m.lat, strs m.out], .cells [vi 0, .nils, .nils, .nils, .nils, .nils, .nils, .nils], .cells [vi m.g.ins, .ls 3 1 0 n1 n1, .ls 4 1 0 n1 n1, .ls 5 2 0 n3 n3, .ls 6 1 0 n4 n4], .cells c1, .cells c2, .cells c3, .cells c4] := ⟨_, rfl⟩
  refine awp_bare (awp_bare (awp_bare (awp_bare ?_)))
  refine awp_leH (h' := HH 0 0 0 [] [] [] []) ?_ ?_
  · rw [hHH]
    exact HLe.set (i := 2) (o' := .cells [vi m.g.ins, .ls 3 1 0 0 0, .ls 4 1 0 0 0, .ls 5 2 0 0 0, .ls 6 1 0 0 0]) rfl (OLe.cells (Nat.le_refl _) (VLes.cons (VLe.refl _) (VLes.cons VLe.nil_ls (VLes.cons VLe.nil_ls (VLes.cons VLe.nil_ls (VLes.cons VLe.nil_ls (VLes.refl _)))))))
  obtain ⟨r1, r2, r3, r4⟩ := Gr.row_parts i4
  have ll : ∀ a ∈ m.g.next, 0 ≤ a ∧ a ≤ 1000000 := fun a ha => by
    have := r3 a ha
    unfold Gr.all Gr.first at this
    omega
  have lo : ∀ a ∈ m.g.outs, 0 ≤ a ∧ a ≤ 1000000 := fun a ha => by
    have := r4 a ha
    unfold Gr.all Gr.first at this
    omega
  refine awp_seq (awp_mono (Q := fun xe f h => xe = .normal ∧ f.t 1 = .lp 0 0 ∧ f.t 2 = .lp 1 0 ∧ f.t 3 = .lp 2 0 ∧ f.d = [] ∧ h = HH m.g.next.length 0 0 ((m.g.next.reverse.map m.g.ren).map vi) (m.g.init.reverse.map vi) [] []) ?_ ?_)
  · rintro xe f h ⟨rfl, h1, h2, h3, hd, rfl⟩
    show awp _ _ _ _ _ _ _
    obtain ⟨nn, hnn⟩ : ∃ nn, nn = m.g.next.length := ⟨_, rfl⟩
    obtain ⟨C1, hC1⟩ : ∃ C1, C1 = (m.g.next.reverse.map m.g.ren).map vi := ⟨_, rfl⟩
    obtain ⟨C2, hC2⟩ : ∃ C2, C2 = m.g.init.reverse.map vi := ⟨_, rfl⟩
    have dV1 : ∀ p, V.drops p C1 = C1 := fun p => by rw [hC1]; exact drops_vi _
    have dV2 : ∀ p, V.drops p C2 = C2 := fun p => by rw [hC2]; exact drops_vi _
    rw [← hC1, ← hC2, ← hnn]
    refine awp_seq (awp_mono (Q := fun xe f h => xe = .normal ∧ f.t 1 = .lp 0 0 ∧ f.t 2 = .lp 1 0 ∧ f.t 3 = .lp 2 0 ∧ f.d = [] ∧ h = HH nn 0 m.g.outs.length C1 C2 [] ((m.g.outs.reverse.map m.g.ren).map vi)) ?_ ?_)
    · rintro xe f h ⟨rfl, h1, h2, h3, hd, rfl⟩
      show awp _ _ _ _ _ _ _
      obtain ⟨no, hno⟩ : ∃ no, no = m.g.outs.length := ⟨_, rfl⟩
      obtain ⟨C4, hC4⟩ : ∃ C4, C4 = (m.g.outs.reverse.map m.g.ren).map vi := ⟨_, rfl⟩
      have dV4 : ∀ p, V.drops p C4 = C4 := fun p => by rw [hC4]; exact drops_vi _
      rw [← hC4, ← hno]
      refine awp_seq (awp_mono (Q := fun xe f h => xe = .normal ∧ f.t 1 = .lp 0 0 ∧ f.t 2 = .lp 1 0 ∧ f.t 3 = .lp 2 0 ∧ f.d = [] ∧ h = HH nn m.g.ands.length no C1 C2 ((m.g.ands.map fun p => (m.g.ren p.1, m.g.ren p.2)).flatMap fun p => [vi p.1, vi p.2]) C4) ?_ ?_)
      · rintro xe f h ⟨rfl, h1, h2, h3, hd, rfl⟩
        show awp _ _ _ _ _ _ _
        have ht1 := ev_turned m.ins (by omega)
        have ht2 := ev_turned m.lat (by omega)
        have ht3 := ev_turned m.out (by omega)
        rw [hHH]
        refine awp_seq (awp_late mixed (by decide +kernel) ?_)
        simp only [List.size_toArray, List.length_cons, List.length_nil, Nat.reduceAdd, Nat.reduceSub, List.take_succ_cons, List.take_zero]
        simp only [sz.down, ↓reduceIte, Nat.reduceEqDiff, Nat.reduceLT, Nat.reduceLeDiff, Nat.reduceAdd, reduceCtorEq, TEP, tis, vcQuietL, isAlloc, h1, h3]
        refine vcEv.mk ht1 rfl rfl ?_
        simp only [sz.down, ↓reduceIte, Nat.reduceEqDiff, Nat.reduceLeDiff, Nat.reduceAdd, h1]
        refine vcEv.mk ht2 rfl rfl ?_
        simp only [sz.down, ↓reduceIte, Nat.reduceEqDiff, Nat.reduceAdd, h1]
        refine vcEv.mk ht3 rfl rfl ?_
        simp only [sz.down, ↓reduceIte, Nat.reduceEqDiff, Nat.reduceLeDiff, Nat.reduceAdd, h2]
        refine vc_ok mixed _ _ _ _ ?_
        simp only [sz.down, ↓reduceIte, Nat.reduceEqDiff, Nat.reduceAdd, reduceCtorEq, TEP, tis, h2, hd]
        have hfl : ∀ l : List Pr, (l.flatMap fun p => [vi p.1, vi p.2]) = (l.map prV).flatMap V.vc := fun l => by
          induction l with
          | nil => rfl
          | cons a l ih => rw [List.flatMap_cons, ih]; rfl
        have hpd : ∀ l : List Pr, V.dats (l.map prV) = true ∧ allFit 2 (l.map prV) = true := fun l => by
          induction l with
          | nil => exact ⟨rfl, rfl⟩
          | cons a l ih => exact ⟨by rw [List.map_cons, V.dats, ih.1]; rfl, by rw [List.map_cons, allFit, ih.2]; rfl⟩
        have z1 : m.mir.g.next.length = nn := by rw [hnn]; simp [Mo.mir, Gr.mir]
        have z2 : m.mir.g.init.length = nn := by rw [hnn, ← r1]; simp [Mo.mir, Gr.mir]
        have z3 : m.mir.g.ands.length = m.g.ands.length := by simp [Mo.mir, Gr.mir]
        have z4 : m.mir.g.outs.length = no := by rw [hno]; simp [Mo.mir, Gr.mir]
        refine Reif.agg (Reifs.cons (Reif.dat rfl) (Reifs.cons (reif_ints (by rw [hC1]; rfl) z1.symm) (Reifs.cons (reif_ints (by rw [hC2]; rfl) z2.symm) (Reifs.cons (Reif.ls (es := (m.g.ands.map fun p => (m.g.ren p.1, m.g.ren p.2)).map prV) rfl (Reifs.dat (by rw [hfl]; exact dats_flat fun v hv => by obtain ⟨q, _, rfl⟩ := List.mem_map.1 hv; rfl)) (hpd _).2 (hfl _).symm (by simp)) (Reifs.cons (reif_ints (by rw [hC4]; rfl) z4.symm) (Reifs.dat rfl))))))
      · refine awp_seq (awp_mono (Q := fun xe f h => xe = .normal ∧ f.t 1 = .lp 0 0 ∧ f.t 2 = .lp 1 0 ∧ f.t 3 = .lp 2 0 ∧ f.t 6 = vi 0 ∧ f.d = [] ∧ h = HH nn 0 no C1 C2 [] C4) ?_ ?_)
        · rintro xe f h ⟨rfl, h1, h2, h3, h6, hd, rfl⟩
          show awp _ _ _ _ _ _ _
          refine awp_block ?_
          refine awp_loop (fun k f h => ∃ (i : Nat) (c3 : List V), k + i = m.g.ands.length ∧ f.t 1 = .lp 0 0 ∧ f.t 2 = .lp 1 0 ∧ f.t 3 = .lp 2 0 ∧ f.t 6 = vi i ∧ f.d = [] ∧ c3 = ((m.g.ands.take i).map fun p => (m.g.ren p.1, m.g.ren p.2)).flatMap (fun p => [vi p.1, vi p.2]) ∧ h = HH nn i no C1 C2 c3 C4) m.g.ands.length
            ⟨0, [], by omega, h1, h2, h3, h6, hd, rfl, rfl⟩ ?_
          rintro k f h ⟨i, c3, hk, h1, h2, h3, h6, hd, hc3, rfl⟩
          have hfl : ∀ l : List Pr, (l.flatMap fun p => [vi p.1, vi p.2]).length = l.length * 2 := fun l => by
            induction l with
            | nil => rfl
            | cons a l ih => rw [List.flatMap_cons, List.length_append, ih, List.length_cons]; simp; omega
          have hdl : ∀ (q : Nat → Bool) (l : List Pr), V.drops q (l.flatMap fun p => [vi p.1, vi p.2]) = l.flatMap fun p => [vi p.1, vi p.2] := fun q l => by
            induction l with
            | nil => rfl
            | cons a l ih =>
              show V.drop q (vi a.1) :: V.drop q (vi a.2) :: V.drops q (l.flatMap fun p => [vi p.1, vi p.2]) = _
              rw [ih]; rfl
          have l1 : i ≤ m.g.ands.length → c3.length = i * 2 := fun hi => by rw [hc3, hfl, List.length_map, List.length_take]; congr 1; omega
          have dv3 : ∀ p, V.drops p c3 = c3 := fun p => by rw [hc3]; exact hdl _ _
          refine awp_seq ?_
          rw [hHH]
          refine vc_ok mixed _ _ _ _ ?_
          simp only [sz.down, ↓reduceIte, Nat.reduceEqDiff, Nat.reduceLT, Nat.reduceLeDiff, Nat.reduceAdd, TEP, tis, h1, h6]
          refine vcB.mk (fun hcc => ?_) (fun hcc => ?_)
          · simp only [decide_eq_true_eq, Int.ofNat_lt] at hcc
            have hgi : (m.g.ands.map prV).getD i .any = prV m.g.ands[i] := getD_map hcc _
            have hok := List.any_eq_false.1 i5 i (List.mem_range.2 hcc)
            rw [getD_at hcc] at hok
            have hok2 : oddA (2 * (m.g.first + i)) m.g.ands[i] = false := by simpa using hok
            unfold oddA Gr.first at hok2
            simp only [Bool.or_eq_false_iff, decide_eq_false_iff_not] at hok2
            obtain ⟨⟨⟨k1, k2⟩, k3⟩, k4⟩ := hok2
            have hr1 := ev_renum m.g m.g.ands[i].1 (by omega) (by omega) i0 i1 (by omega)
            have hr2 := ev_renum m.g m.g.ands[i].2 (by omega) (by omega) i0 i1 (by omega)
            unfold Gr.v at hr1 hr2
            have l1' := l1 (by omega)
            have hw := wrap_succ (show i < maxLen by omega)
            refine awp_seq (awp_block ?_)
            refine awp_seq (vc_ok mixed _ _ _ _ ?_)
            simp only [sz.down, ↓reduceIte, Nat.reduceEqDiff, Nat.reduceLT, Nat.reduceLeDiff, Nat.reduceAdd, TEP, tis, h1, h6, hgi]
            refine ⟨⟨by omega, by omega⟩, ?_⟩
            refine awp_late2 mixed [] [0, 1, 2, 3, 4, 5, 6, 7, 8, 9, 10, 11, 12, 13] 14 (.one 14 <| .take 15 <| .one 16 <| .fin) (fun f' h' => f'.t 1 = .lp 0 0 ∧ f'.t 2 = .lp 1 0 ∧ f'.t 3 = .lp 2 0 ∧ f'.t 6 = vi i ∧ f'.d = [] ∧ h' = [O.cells [vi m.g.ins, ints m.g.next, ints m.g.init, prs m.g.ands, ints m.g.outs, strs m.ins, strs m.lat, strs m.out], .cells [vi 0, .nils, .nils, .nils, .nils, .nils, .nils, .nils], .cells [vi m.g.ins, .ls 3 1 0 nn nn, .ls 4 1 0 nn nn, .ls 5 2 0 (i + 1) (i + 1), .ls 6 1 0 no no], .cells C1, .cells C2, .cells (c3 ++ [vi (m.g.ren m.g.ands[i].1), vi (m.g.ren m.g.ands[i].2)]), .cells C4, .cells [vi m.g.ands[i].1, vi m.g.ands[i].2]]) (by decide +kernel) ?_ ?_
            · simp only [opsAt, List.filterMap_cons, List.filterMap_nil]
              simp only [sz.down, ↓reduceIte, Nat.reduceEqDiff, Nat.reduceLT, Nat.reduceLeDiff, Nat.reduceAdd, Int.reduceToNat, Int.reduceLE, reduceCtorEq, Nat.reduceMul, TEP, tis, vcTakes, vcQuietL, isAlloc, h1, h3]
              refine ⟨by decide, vcEv.mk hr1 rfl (by simp only [V.dats, V.dat, Bool.and_self]) ?_⟩
              simp only [sz.down, ↓reduceIte, Nat.reduceEqDiff, Nat.reduceLeDiff, Nat.reduceAdd, h1]
              refine ⟨by decide, vcEv.mk hr2 rfl (by simp only [V.dats, V.dat, Bool.and_self]) ?_⟩
              simp only [sz.down, ↓reduceIte, Nat.reduceEqDiff, Nat.reduceLeDiff, Nat.reduceAdd, Nat.reduceBEq, h1, h2, h3, h6, hd, dV1, dV2, dv3, dV4]
              exact ⟨⟨rfl, by decide⟩, rfl, ⟨l1', rfl, by omega, by omega⟩, rfl⟩
            · rintro f h ⟨h1, h2, h3, h6, hd, rfl⟩
              show awp _ _ _ _ _ _ _
              refine vc_ok mixed _ _ _ _ ?_
              simp only [sz.down, ↓reduceIte, Nat.reduceLT, TEP, h6, hw]
              refine .inr ⟨7, by simp only [sz.down, hd], k - 1, by omega, i + 1, c3 ++ [vi (m.g.ren m.g.ands[i].1), vi (m.g.ren m.g.ands[i].2)], by omega, by simp only [sz.down, ↓reduceIte, Nat.reduceEqDiff, Nat.reduceLeDiff, h1], by simp only [sz.down, ↓reduceIte, Nat.reduceEqDiff, Nat.reduceLeDiff, h2], by simp only [sz.down, ↓reduceIte, Nat.reduceEqDiff, Nat.reduceLeDiff, h3], by simp only [sz.down, ↓reduceIte], by simp only [sz.down, hd], ?_, ?_⟩
              · rw [hc3, show m.g.ands.take (i + 1) = m.g.ands.take i ++ [m.g.ands[i]] by rw [List.take_add_one, List.getElem?_eq_getElem hcc]; rfl, List.map_append, List.flatMap_append]
                rfl
              · have dv5 : ∀ q, V.drops q (c3 ++ [vi (m.g.ren m.g.ands[i].1), vi (m.g.ren m.g.ands[i].2)]) = c3 ++ [vi (m.g.ren m.g.ands[i].1), vi (m.g.ren m.g.ands[i].2)] := fun q => by
                  have : c3 ++ [vi (m.g.ren m.g.ands[i].1), vi (m.g.ren m.g.ands[i].2)] = (((m.g.ands.take i).map fun p => (m.g.ren p.1, m.g.ren p.2)) ++ [(m.g.ren m.g.ands[i].1, m.g.ren m.g.ands[i].2)]).flatMap fun p => [vi p.1, vi p.2] := by
                    rw [hc3, List.flatMap_append]; rfl
                  rw [this]; exact hdl _ _
                simp only [List.map_cons, List.map_nil, O.drop, V.drops, V.drop, dV1, dV2, dV4, dv5, List.take_succ_cons, List.take_zero]
                rfl
          · simp only [decide_eq_false_iff_not, Int.ofNat_lt] at hcc
            have hi : i = m.g.ands.length := by omega
            subst hi
            simp only [sz.down, ↓reduceIte, Nat.reduceEqDiff]
            refine ⟨h1, h2, h3, hd, ?_⟩
            rw [hc3, List.take_length]
        · rw [hHH]
          refine vc_ok mixed _ _ _ _ ?_
          simp only [sz.down, ↓reduceIte, Nat.reduceEqDiff, Nat.reduceLT, TEP, h1, h2, h3, hd]
    · refine awp_seq (awp_mono (Q := fun xe f h => xe = .normal ∧ f.t 1 = .lp 0 0 ∧ f.t 2 = .lp 1 0 ∧ f.t 3 = .lp 2 0 ∧ f.t 5 = vi ((m.g.outs.length : Int) - 1) ∧ f.d = [] ∧ h = HH nn 0 0 C1 C2 [] []) ?_ ?_)
      · rintro xe f h ⟨rfl, h1, h2, h3, h4, hd, rfl⟩
        show awp _ _ _ _ _ _ _
        refine awp_block ?_
        refine awp_loop (fun k f h => ∃ (j : Nat) (c4 : List V), k + j = m.g.outs.length ∧ f.t 1 = .lp 0 0 ∧ f.t 2 = .lp 1 0 ∧ f.t 3 = .lp 2 0 ∧ f.t 5 = vi ((m.g.outs.length : Int) - 1 - j) ∧ f.d = [] ∧ c4 = ((m.g.outs.reverse.take j).map m.g.ren).map vi ∧ h = HH nn 0 j C1 C2 [] c4) m.g.outs.length
          ⟨0, [], by omega, h1, h2, h3, by rw [h4]; simp, hd, rfl, rfl⟩ ?_
        rintro k f h ⟨j, c4, hk, h1, h2, h3, h4, hd, hc4, rfl⟩
        have l1 : j ≤ m.g.outs.length → c4.length = j := fun hi => by rw [hc4, List.length_map, List.length_map, List.length_take, List.length_reverse]; omega
        have dv4 : ∀ p, V.drops p c4 = c4 := fun p => by rw [hc4]; exact drops_vi _
        refine awp_seq (vc_ok mixed _ _ _ _ ?_)
        simp only [sz.down, ↓reduceIte, Nat.reduceLT, TEP, h4]
        refine vcB.mk (fun hcc => ?_) (fun hcc => ?_)
        · simp only [decide_eq_true_eq] at hcc
          have hj : j < m.g.outs.length := by omega
          obtain ⟨p, hp⟩ : ∃ p : Nat, p = m.g.outs.length - 1 - j := ⟨_, rfl⟩
          have hpl : p < m.g.outs.length := by omega
          have e : (m.g.outs.length : Int) - 1 - j = (p : Int) := by omega
          have w2 : IntKind.i64.wrap ((p : Int) - 1) = (m.g.outs.length : Int) - 1 - ((j + 1 : Nat) : Int) := by rw [wrap64 (by omega) (by omega)]; omega
          have l1' := l1 (by omega)
          have hlit := lo _ (List.getElem_mem hpl)
          have hrn := ev_renum m.g m.g.outs[p] hlit.1 hlit.2 i0 i1 (by omega)
          unfold Gr.v at hrn
          rw [e] at h4 ⊢
          simp only [sz.down]
          refine awp_seq (awp_block ?_)
          refine awp_late2 mixed [] [0, 1, 2, 3, 4, 5, 6, 7, 8, 9, 10, 11] 12 (.one 12 <| .take 13 <| .one 14 <| .fin) (fun f' h' => f'.t 1 = .lp 0 0 ∧ f'.t 2 = .lp 1 0 ∧ f'.t 3 = .lp 2 0 ∧ f'.t 5 = vi p ∧ f'.d = [] ∧ h' = [O.cells [vi m.g.ins, ints m.g.next, ints m.g.init, prs m.g.ands, ints m.g.outs, strs m.ins, strs m.lat, strs m.out], .cells [vi 0, .nils, .nils, .nils, .nils, .nils, .nils, .nils], .cells [vi m.g.ins, .ls 3 1 0 nn nn, .ls 4 1 0 nn nn, .ls 5 2 0 0 0, .ls 6 1 0 (j + 1) (j + 1)], .cells C1, .cells C2, .cells [], .cells (c4 ++ [vi (m.g.ren m.g.outs[p])])]) (by decide +kernel) ?_ ?_
          · rw [hHH]
            simp only [opsAt, List.filterMap_cons, List.filterMap_nil]
            simp only [sz.down, ↓reduceIte, Nat.reduceEqDiff, Nat.reduceLT, Nat.reduceLeDiff, Nat.reduceAdd, reduceCtorEq, Nat.reduceMul, TEP, tis, vcTakes, vcQuietL, isAlloc, h1, h3, h4, getI hpl]
            refine ⟨⟨by omega, by omega⟩, vcEv.mk hrn rfl (by simp only [V.dats, V.dat, Bool.and_self]) ?_⟩
            simp only [sz.down, ↓reduceIte, Nat.reduceEqDiff, Nat.reduceAdd, Nat.reduceBEq, h1, h2, h3, h4, hd, dV1, dV2, dv4]
            exact ⟨⟨rfl, by decide⟩, by omega, by omega, by omega⟩
          · rintro f h ⟨h1, h2, h3, h4, hd, rfl⟩
            have hjr : j < m.g.outs.reverse.length := by rw [List.length_reverse]; exact hj
            have g1 : m.g.outs.reverse[j] = m.g.outs[p] := by rw [List.getElem_reverse]; congr 1; exact hp.symm
            show awp _ _ _ _ _ _ _
            refine vc_ok mixed _ _ _ _ ?_
            simp only [sz.down, ↓reduceIte, Nat.reduceLT, TEP, h4, w2]
            refine .inl ⟨k - 1, by omega, j + 1, _, by omega, by simp only [sz.down, ↓reduceIte, Nat.reduceEqDiff, h1], by simp only [sz.down, ↓reduceIte, Nat.reduceEqDiff, h2], by simp only [sz.down, ↓reduceIte, Nat.reduceEqDiff, h3], by simp only [sz.down, ↓reduceIte], by simp only [sz.down, hd], ?_, by rw [hHH]⟩
            rw [hc4, show m.g.outs.reverse.take (j + 1) = m.g.outs.reverse.take j ++ [m.g.outs.reverse[j]] by rw [List.take_add_one, List.getElem?_eq_getElem hjr]; rfl, List.map_append, List.map_append, g1]
            rfl
        · simp only [decide_eq_false_iff_not] at hcc
          have hj : j = m.g.outs.length := by omega
          subst hj
          simp only [sz.down, ↓reduceIte, Nat.reduceEqDiff]
          refine ⟨h1, h2, h3, hd, ?_⟩
          rw [hc4, List.take_of_length_le (by simp)]
      · have w1 : IntKind.i64.wrap ((m.g.outs.length : Int) - 1) = (m.g.outs.length : Int) - 1 := wrap64 (by omega) (by omega)
        rw [hHH]
        refine vc_ok mixed _ _ _ _ ?_
        simp only [sz.down, ↓reduceIte, Nat.reduceEqDiff, Nat.reduceLT, Nat.reduceLeDiff, Nat.reduceAdd, TEP, tis, h1, h2, h3, hd, w1]
  · refine awp_seq (awp_mono (Q := fun xe f h => xe = .normal ∧ f.t 1 = .lp 0 0 ∧ f.t 2 = .lp 1 0 ∧ f.t 3 = .lp 2 0 ∧ f.t 4 = vi ((m.g.next.length : Int) - 1) ∧ f.d = [] ∧ h = HH 0 0 0 [] [] [] []) ?_ ?_)
    · rintro xe f h ⟨rfl, h1, h2, h3, h4, hd, rfl⟩
      show awp _ _ _ _ _ _ _
      refine awp_block ?_
      refine awp_loop (fun k f h => ∃ (j : Nat) (c1 c2 : List V), k + j = m.g.next.length ∧ f.t 1 = .lp 0 0 ∧ f.t 2 = .lp 1 0 ∧ f.t 3 = .lp 2 0 ∧ f.t 4 = vi ((m.g.next.length : Int) - 1 - j) ∧ f.d = [] ∧ c1 = ((m.g.next.reverse.take j).map m.g.ren).map vi ∧ c2 = (m.g.init.reverse.take j).map vi ∧ h = HH j 0 0 c1 c2 [] []) m.g.next.length
        ⟨0, [], [], by omega, h1, h2, h3, by rw [h4]; simp, hd, rfl, rfl, rfl⟩ ?_
      rintro k f h ⟨j, c1, c2, hk, h1, h2, h3, h4, hd, hc1, hc2, rfl⟩
      have l1 : j ≤ m.g.next.length → c1.length = j := fun hi => by rw [hc1, List.length_map, List.length_map, List.length_take, List.length_reverse]; omega
      have l2 : j ≤ m.g.next.length → c2.length = j := fun hi => by rw [hc2, List.length_map, List.length_take, List.length_reverse]; omega
      have dv1 : ∀ p, V.drops p c1 = c1 := fun p => by rw [hc1]; exact drops_vi _
      have dv2 : ∀ p, V.drops p c2 = c2 := fun p => by rw [hc2]; exact drops_vi _
      refine awp_seq (vc_ok mixed _ _ _ _ ?_)
      simp only [sz.down, ↓reduceIte, Nat.reduceLT, TEP, h4]
      refine vcB.mk (fun hcc => ?_) (fun hcc => ?_)
      · simp only [decide_eq_true_eq] at hcc
        have hj : j < m.g.next.length := by omega
        obtain ⟨p, hp⟩ : ∃ p : Nat, p = m.g.next.length - 1 - j := ⟨_, rfl⟩
        have hpl : p < m.g.next.length := by omega
        have hpi : p < m.g.init.length := by omega
        have e : (m.g.next.length : Int) - 1 - j = (p : Int) := by omega
        have w2 : IntKind.i64.wrap ((p : Int) - 1) = (m.g.next.length : Int) - 1 - ((j + 1 : Nat) : Int) := by rw [wrap64 (by omega) (by omega)]; omega
        have l1' := l1 (by omega)
        have l2' := l2 (by omega)
        have hlit := ll _ (List.getElem_mem hpl)
        have hrn := ev_renum m.g m.g.next[p] hlit.1 hlit.2 i0 i1 (by omega)
        unfold Gr.v at hrn
        rw [e] at h4 ⊢
        simp only [sz.down]
        refine awp_seq (awp_block (awp_seq ?_))
        refine awp_late2 mixed [] [0, 1, 2, 3, 4, 5, 6, 7, 8, 9, 10, 11] 12 (.one 12 <| .take 13 <| .one 14 <| .fin) (fun f' h' => f'.t 1 = .lp 0 0 ∧ f'.t 2 = .lp 1 0 ∧ f'.t 3 = .lp 2 0 ∧ f'.t 4 = vi p ∧ f'.d = [] ∧ h' = [O.cells [vi m.g.ins, ints m.g.next, ints m.g.init, prs m.g.ands, ints m.g.outs, strs m.ins, strs m.lat, strs m.out], .cells [vi 0, .nils, .nils, .nils, .nils, .nils, .nils, .nils], .cells [vi m.g.ins, .ls 3 1 0 (j + 1) (j + 1), .ls 4 1 0 j j, .ls 5 2 0 0 0, .ls 6 1 0 0 0], .cells (c1 ++ [vi (m.g.ren m.g.next[p])]), .cells c2, .cells [], .cells []]) (by decide +kernel) ?_ ?_
        · rw [hHH]
          simp only [opsAt, List.filterMap_cons, List.filterMap_nil]
          simp only [sz.down, ↓reduceIte, Nat.reduceEqDiff, Nat.reduceLT, Nat.reduceLeDiff, Nat.reduceAdd, reduceCtorEq, Nat.reduceMul, TEP, tis, vcTakes, vcQuietL, isAlloc, h1, h3, h4, getI hpl]
          refine ⟨⟨by omega, by omega⟩, vcEv.mk hrn rfl (by simp only [V.dats, V.dat, Bool.and_self]) ?_⟩
          simp only [sz.down, ↓reduceIte, Nat.reduceEqDiff, Nat.reduceLeDiff, Nat.reduceAdd, Nat.reduceBEq, h1, h2, h3, h4, hd, dv1, dv2]
          exact ⟨⟨rfl, by decide⟩, by omega, by omega, by omega⟩
        · rintro f h ⟨h1, h2, h3, h4, hd, rfl⟩
          show awp _ _ _ _ _ _ _
          refine awp_late2 mixed [] [0, 1, 2, 3, 4, 5, 6, 7, 8] 9 (.one 9 <| .take 10 <| .one 11 <| .fin) (fun f' h' => f'.t 1 = .lp 0 0 ∧ f'.t 2 = .lp 1 0 ∧ f'.t 3 = .lp 2 0 ∧ f'.t 4 = vi p ∧ f'.d = [] ∧ h' = [O.cells [vi m.g.ins, ints m.g.next, ints m.g.init, prs m.g.ands, ints m.g.outs, strs m.ins, strs m.lat, strs m.out], .cells [vi 0, .nils, .nils, .nils, .nils, .nils, .nils, .nils], .cells [vi m.g.ins, .ls 3 1 0 (j + 1) (j + 1), .ls 4 1 0 (j + 1) (j + 1), .ls 5 2 0 0 0, .ls 6 1 0 0 0], .cells (c1 ++ [vi (m.g.ren m.g.next[p])]), .cells (c2 ++ [vi m.g.init[p]]), .cells [], .cells []]) (by decide +kernel) ?_ ?_
          · simp only [opsAt, List.filterMap_cons, List.filterMap_nil]
            have dv3 : ∀ q, V.drops q (c1 ++ [vi (m.g.ren m.g.next[p])]) = c1 ++ [vi (m.g.ren m.g.next[p])] := fun q => by
              rw [hc1, show [vi (m.g.ren m.g.next[p])] = [m.g.ren m.g.next[p]].map vi from rfl, ← List.map_append]; exact drops_vi _
            simp only [sz.down, ↓reduceIte, Nat.reduceEqDiff, Nat.reduceLT, Nat.reduceLeDiff, Nat.reduceAdd, Nat.reduceBEq, reduceCtorEq, Nat.reduceMul, TEP, tis, vcTakes, vcQuietL, isAlloc, h1, h2, h3, h4, hd, getI hpi, dv1, dv2]
            exact ⟨⟨by omega, by omega⟩, ⟨rfl, by decide⟩, by omega, by omega, by omega⟩
          · rintro f h ⟨h1, h2, h3, h4, hd, rfl⟩
            have hjr : j < m.g.next.reverse.length := by rw [List.length_reverse]; exact hj
            have hji : j < m.g.init.reverse.length := by rw [List.length_reverse]; omega
            have g1 : m.g.next.reverse[j] = m.g.next[p] := by rw [List.getElem_reverse]; congr 1; exact hp.symm
            have g2 : m.g.init.reverse[j] = m.g.init[p] := by rw [List.getElem_reverse]; congr 1; omega
            show awp _ _ _ _ _ _ _
            refine vc_ok mixed _ _ _ _ ?_
            simp only [sz.down, ↓reduceIte, Nat.reduceLT, TEP, h4, w2]
            refine .inl ⟨k - 1, by omega, j + 1, _, _, by omega, by simp only [sz.down, ↓reduceIte, Nat.reduceEqDiff, h1], by simp only [sz.down, ↓reduceIte, Nat.reduceEqDiff, h2], by simp only [sz.down, ↓reduceIte, Nat.reduceEqDiff, h3], by simp only [sz.down, ↓reduceIte], by simp only [sz.down, hd], ?_, ?_, by rw [hHH]⟩
            · rw [hc1, show m.g.next.reverse.take (j + 1) = m.g.next.reverse.take j ++ [m.g.next.reverse[j]] by rw [List.take_add_one, List.getElem?_eq_getElem hjr]; rfl, List.map_append, List.map_append, g1]
              rfl
            · rw [hc2, show m.g.init.reverse.take (j + 1) = m.g.init.reverse.take j ++ [m.g.init.reverse[j]] by rw [List.take_add_one, List.getElem?_eq_getElem hji]; rfl, List.map_append, g2]
              rfl
      · simp only [decide_eq_false_iff_not] at hcc
        have hj : j = m.g.next.length := by omega
        subst hj
        simp only [sz.down, ↓reduceIte, Nat.reduceEqDiff]
        refine ⟨h1, h2, h3, hd, ?_⟩
        rw [hc1, hc2, List.take_of_length_le (by simp), List.take_of_length_le (by simp; omega)]
    · have w1 : IntKind.i64.wrap ((m.g.next.length : Int) - 1) = (m.g.next.length : Int) - 1 := wrap64 (by omega) (by omega)
      rw [hHH]
      refine vc_ok mixed _ _ _ _ ?_
      simp only [sz.down, ↓reduceIte, Nat.reduceEqDiff, Nat.reduceLT, Nat.reduceLeDiff, Nat.reduceAdd, TEP, tis, w1]

end Go.Proofs.YtboolnpmlmgpkaaGreatDoor

set_option linter.unusedVariables false
set_option maxRecDepth 20000
set_option linter.unusedSimpArgs false
set_option linter.unnecessarySimpa false
namespace Go.Proofs.YtboolnpmlmgpkaaGreatDoor
open Go Go.Proofs Go.Abs

/-! ### The other way round -/
theorem findIdx_nd {l : List S} (h : l.Nodup) {i : Nat} (hi : i < l.length) : idx l (· == l[i]) = (i : Int) := by
  obtain ⟨j, hj, hl, he⟩ := idx_mem (List.getElem_mem hi)
  rw [hj]
  have := (List.getElem_inj (h₀ := hl) (h₁ := hi) h).1 he
  rw [this]
theorem moveV_self {fr : List S} (h : fr.Nodup) {l : Cl} (hl : l.length = fr.length) : moveV fr fr l = l := by
  refine List.ext_getElem (by simp [moveV, hl]) fun i h1 h2 => ?_
  have hf : i < fr.length := by omega
  simp only [moveV, List.getElem_map, findIdx_nd h hf, Int.toNat_natCast, getD_at h2]
theorem moveV_rev {fr : List S} (h : fr.Nodup) {l : Cl} (hl : l.length = fr.length) : moveV fr fr.reverse l = l.reverse := by
  have := moveV_self h hl
  unfold moveV at this ⊢
  rw [List.map_reverse, this]
theorem nd_rev {α : Type} {l : List α} (h : l.Nodup) : l.reverse.Nodup := (List.Perm.nodup_iff (List.reverse_perm l)).2 h
theorem moveV_back {fr : List S} (h : fr.Nodup) {l : Cl} (hl : l.length = fr.length) : moveV fr.reverse fr l = l.reverse := by
  have := moveV_rev (fr := fr.reverse) (nd_rev h) (l := l) (by simpa using hl)
  rwa [List.reverse_reverse] at this
theorem getD_rev {α : Type} {l : List α} {i : Nat} {d : α} (h : i < l.length) : l.reverse.getD i d = l.getD (l.length - 1 - i) d := by
  rw [getD_at (by simpa using h), getD_at (by omega), List.getElem_reverse]
theorem idx_rev {l : List S} (h : l.Nodup) {i : Nat} (hi : i < l.length) : idx l.reverse (· == l[i]) = ((l.length - 1 - i : Nat) : Int) := by
  have h2 : l.length - 1 - i < l.reverse.length := by simp; omega
  have := findIdx_nd (nd_rev h) h2
  rw [List.getElem_reverse] at this
  rw [← this]
  congr 2
  funext x
  congr 2
  omega

theorem Gr.rnum_in {g : Gr} (h0 : 0 ≤ g.ins) {v : Int} (hv : 0 ≤ v) : 0 ≤ g.rnum v ∧ (v < g.first → g.rnum v < g.first) ∧ (g.first ≤ v → g.rnum v = v) := by
  unfold Gr.rnum Gr.first
  split
  · omega
  · split <;> omega
theorem Gr.ren_in {g : Gr} (h0 : 0 ≤ g.ins) {l : Int} (hl : 0 ≤ l) : 0 ≤ g.ren l ∧ g.ren l / 2 = g.rnum (l / 2) ∧ g.ren l % 2 = l % 2 ∧ ∀ b, g.first ≤ b → l < 2 * b → g.ren l < 2 * b := by
  obtain ⟨r0, r1, r2⟩ := Gr.rnum_in (g := g) h0 (v := l / 2) (by omega)
  unfold Gr.ren
  refine ⟨by omega, by omega, by omega, fun b hb h => ?_⟩
  by_cases hh : l / 2 < g.first
  · have := r1 hh; omega
  · have := r2 (by omega); omega
theorem Gr.mir_lens (g : Gr) : g.mir.ins = g.ins ∧ g.mir.next.length = g.next.length ∧ g.mir.ands.length = g.ands.length ∧ g.mir.outs.length = g.outs.length ∧ g.mir.init.length = g.init.length ∧ g.mir.first = g.first ∧ g.mir.all = g.all := by
  simp [Gr.mir, Gr.first, Gr.all]
theorem Gr.mir_chk {g : Gr} (h : g.chk = 0) : g.mir.chk = 0 := by
  obtain ⟨_, i0, i1, i2, i3, i4, i5⟩ := Gr.ok_of h
  obtain ⟨r1, r2, r3, r4⟩ := Gr.row_parts i4
  obtain ⟨e1, e2, e3, e4, e5, e6, e7⟩ := Gr.mir_lens g
  have wa : g.all = 2 * (g.first + g.ands.length) := rfl
  have hlit : ∀ a : Int, 0 ≤ a ∧ a < g.all → oddL g.all (g.ren a) = false := fun a ha => by
    obtain ⟨p1, _, _, p4⟩ := Gr.ren_in i0 ha.1
    have := p4 (g.first + g.ands.length) (by omega) (by omega)
    simp only [oddL, Bool.or_eq_false_iff, decide_eq_false_iff_not]
    omega
  unfold Gr.chk
  have q1 : g.mir.lim = false := by
    simp only [Gr.lim, e1, e2, e3, e4, Bool.or_eq_false_iff, decide_eq_false_iff_not]
    omega
  have q2 : g.mir.oddR = false := by
    simp only [Gr.oddR, e2, e5, e7, r1, Bool.or_eq_false_iff, bne_self_eq_false, true_and]
    refine ⟨⟨?_, ?_⟩, ?_⟩
    · refine List.any_eq_false.2 fun a ha => ?_
      have := r2 a (by simpa [Gr.mir] using ha)
      simp [oddB]; omega
    · refine List.any_eq_false.2 fun a ha => ?_
      simp only [Gr.mir, List.mem_map, List.mem_reverse] at ha
      obtain ⟨b, hb, rfl⟩ := ha
      rw [hlit b (r3 b hb)]; decide
    · refine List.any_eq_false.2 fun a ha => ?_
      simp only [Gr.mir, List.mem_map, List.mem_reverse] at ha
      obtain ⟨b, hb, rfl⟩ := ha
      rw [hlit b (r4 b hb)]; decide
  have q3 : g.mir.oddAs g.mir.ands.length = false := by
    unfold Gr.oddAs
    rw [List.any_eq_false]
    intro i hi
    have hi := List.mem_range.1 hi
    have hi2 : i < g.ands.length := by omega
    obtain ⟨o1, o2, o3, o4⟩ := oddAs_at i5 hi2
    obtain ⟨p1, _, _, p4⟩ := Gr.ren_in i0 o1
    obtain ⟨p5, _, _, p8⟩ := Gr.ren_in i0 o2
    have p4 := p4 (g.first + i) (by omega) o3
    have p8 := p8 (g.first + i) (by omega) o4
    rw [getD_at hi, e6]
    have : g.mir.ands[i] = (g.ren g.ands[i].1, g.ren g.ands[i].2) := by simp [Gr.mir]
    rw [this]
    simp [oddA]; omega
  rw [if_neg (by simp [q1]), if_neg (by simp [q2]), if_neg (by simp [q3])]

theorem Mo.place_at {m : Mo} (h : (m.ins ++ m.lat).Nodup) {s : S} : (∀ i : Nat, (hi : i < (m.ins ++ m.lat).length) → (m.ins ++ m.lat)[i] = s → m.place s = i + 1) ∧ (s ∉ m.ins ++ m.lat → m.place s = -1) ∧ (s ∈ m.ins ++ m.lat → ∃ i : Nat, ∃ hi : i < (m.ins ++ m.lat).length, (m.ins ++ m.lat)[i] = s) := by
  refine ⟨fun i hi e => ?_, fun hn => ?_, fun hm => List.getElem_of_mem hm⟩
  · subst e
    unfold Mo.place
    rw [findIdx_nd h hi, if_neg (by omega)]
  · unfold Mo.place
    have : idx (m.ins ++ m.lat) (· == s) = -1 := by
      unfold idx
      cases hf : (m.ins ++ m.lat).findIdx? (· == s) with
      | none => rfl
      | some i =>
        obtain ⟨hi, hb, _⟩ := List.findIdx?_eq_some_iff_getElem.1 hf
        have : (m.ins ++ m.lat)[i] = s := by simpa using hb
        exact absurd (this ▸ List.getElem_mem hi) hn
    rw [this]; rfl
theorem Mo.mir_place {m : Mo} (h : (m.ins ++ m.lat).Nodup) (l1 : (m.ins.length : Int) = m.g.ins) (l2 : (m.lat.length : Int) = m.g.next.length) (s : S) : m.mir.place s = if m.place s < 0 then -1 else m.g.rnum (m.place s) := by
  have eA : m.mir.ins ++ m.mir.lat = m.ins.reverse ++ m.lat.reverse := rfl
  have h' : (m.mir.ins ++ m.mir.lat).Nodup := by
    rw [eA]
    refine (List.Perm.nodup_iff ?_).1 h
    exact List.Perm.append (List.reverse_perm _).symm (List.reverse_perm _).symm
  obtain ⟨a1, a2, a3⟩ := Mo.place_at h (s := s)
  have hb := Mo.place_at h' (s := s)
  rw [eA] at hb
  obtain ⟨b1, b2, b3⟩ := hb
  by_cases hs : s ∈ m.ins ++ m.lat
  · obtain ⟨i, hi, e⟩ := a3 hs
    have e1 := a1 i hi e
    rw [e1, if_neg (by omega)]
    have hl : (m.ins ++ m.lat).length = m.ins.length + m.lat.length := List.length_append
    have hl2 : (m.ins.reverse ++ m.lat.reverse).length = m.ins.length + m.lat.length := by simp
    have k1 : m.ins.reverse.length = m.ins.length := List.length_reverse
    have k2 : m.lat.reverse.length = m.lat.length := List.length_reverse
    by_cases hc : i < m.ins.length
    · have hj : m.ins.length - 1 - i < (m.ins.reverse ++ m.lat.reverse).length := by omega
      have e2 : (m.ins.reverse ++ m.lat.reverse)[m.ins.length - 1 - i] = s := by
        rw [← e, List.getElem_append_left hc, List.getElem_append_left (by omega), List.getElem_reverse]
        congr 1; omega
      rw [b1 _ hj e2]
      unfold Gr.rnum
      rw [if_pos (by omega)]
      omega
    · have hj : m.ins.length + (m.lat.length - 1 - (i - m.ins.length)) < (m.ins.reverse ++ m.lat.reverse).length := by omega
      have e2 : (m.ins.reverse ++ m.lat.reverse)[m.ins.length + (m.lat.length - 1 - (i - m.ins.length))] = s := by
        rw [← e, List.getElem_append_right (by omega), List.getElem_append_right (by omega), List.getElem_reverse]
        congr 1
        omega
      rw [b1 _ hj e2]
      unfold Gr.rnum
      rw [if_neg (by omega), if_pos (by omega)]
      omega
  · rw [a2 hs, if_pos (by omega)]
    refine b2 fun hm => hs ?_
    simpa using hm

/-- What a model that is one brings. -/
theorem Mo.nd {m : Mo} (h : m.chk = 0) : (m.ins ++ m.lat).Nodup ∧ m.out.Nodup := by
  have := (Mo.chk_parts h).2.2.2.1
  simpa [Mo.twos, twice, Bool.or_eq_false_iff] using this
theorem Mo.mir_chk {m : Mo} (h : m.chk = 0) : m.mir.chk = 0 := by
  obtain ⟨c1, c2, c3, c4, c5⟩ := Mo.chk_parts h
  obtain ⟨_, i0, i1, i2, i3, i4, i5⟩ := Gr.ok_of c1
  obtain ⟨r1, r2, r3, r4⟩ := Gr.row_parts i4
  obtain ⟨d1, d2⟩ := Mo.nd h
  obtain ⟨e1, e2, e3, e4, e5, e6, e7⟩ := Gr.mir_lens m.g
  have hg := Gr.mir_chk c1
  have c2' := c2
  simp only [Mo.lens, Bool.or_eq_false_iff, bne_eq_false_iff_eq] at c2'
  obtain ⟨⟨l1, l2⟩, l3⟩ := c2'
  have q2 : m.mir.lens = false := by
    show (((m.ins.reverse.length : Int) != m.g.mir.ins) || ((m.lat.reverse.length : Int) != (m.g.mir.next.length : Int)) || ((m.out.reverse.length : Int) != (m.g.mir.outs.length : Int))) = false
    rw [e1, e2, e4]
    simpa [Mo.lens] using c2
  have q3 : m.mir.names = false := by
    simpa [Mo.names, Mo.mir] using c3
  have q4 : m.mir.twos = false := by
    have h1 : (m.ins.reverse ++ m.lat.reverse).Nodup := (List.Perm.nodup_iff (List.Perm.append (List.reverse_perm _).symm (List.reverse_perm _).symm)).1 d1
    have h2 : m.out.reverse.Nodup := nd_rev d2
    show (twice (m.ins.reverse ++ m.lat.reverse) || twice m.out.reverse) = false
    unfold twice
    simp only [h1, h2]
    decide
  have q5 : m.mir.other m.mir.out.length = false := by
    unfold Mo.other
    refine List.any_eq_false.2 fun i hi => ?_
    have hi : i < m.mir.out.length := List.mem_range.1 hi
    have hl : m.mir.out.length = m.out.length := by simp [Mo.mir]
    have hj : m.out.length - 1 - i < m.out.length := by omega
    have g1 : m.mir.out.getD i [] = m.out.getD (m.out.length - 1 - i) [] := getD_rev (by omega)
    have g2 : m.mir.g.outs.getD i 0 = m.g.ren (m.g.outs.getD (m.out.length - 1 - i) 0) := by
      show (m.g.outs.reverse.map m.g.ren).getD i 0 = _
      rw [List.map_reverse, getD_rev (by simp; omega), getD_at (by simp; omega), getD_at (by omega)]
      simp only [List.getElem_map, List.length_map]
      congr 2
      omega
    have key := List.any_eq_false.1 c5 (m.out.length - 1 - i) (List.mem_range.2 hj)
    rw [g1, g2, Mo.mir_place d1 l1 l2]
    simp only [Bool.and_eq_true, decide_eq_true_eq, bne_iff_ne, ne_eq, not_and, Decidable.not_not] at key ⊢
    split
    · intro h; omega
    · rename_i hp
      intro _
      have := key (by omega)
      rw [this]
      obtain ⟨pl, hpl⟩ : ∃ pl, pl = m.place (m.out.getD (m.out.length - 1 - i) []) := ⟨_, rfl⟩
      rw [← hpl]
      unfold Gr.ren
      rw [show 2 * pl / 2 = pl by omega]
      omega
  unfold Mo.chk
  rw [if_neg (show ¬ m.mir.g.chk ≠ 0 from fun h => h hg), if_neg (by simp [q2]), if_neg (by simp [q3]), if_neg (by simp [q4]), if_neg (by simp [q5])]

/-! ### What it does -/
theorem lv_mir {g : Gr} {v v' : List Bool} (h0 : 0 ≤ g.ins) (hv : ∀ n : Nat, n < v.length → v'.getD (g.rnum n).toNat false = v.getD n false) {a : Int} (ha : 0 ≤ a) (hl : a / 2 < v.length) : lv v' (g.ren a) = lv v a := by
  obtain ⟨r0, r1, r2, r3⟩ := Gr.ren_in (g := g) h0 ha
  unfold lv
  rw [r1, r2]
  obtain ⟨k, hk⟩ : ∃ k : Nat, a / 2 = k := ⟨(a / 2).toNat, by omega⟩
  rw [hk, hv k (by omega), Int.toNat_natCast]
theorem getD_app_l {α : Type} {a b : List α} {d : α} {i : Nat} (h : i < a.length) : (a ++ b).getD i d = a.getD i d := by
  rw [getD_at (by simp; omega), getD_at h, List.getElem_append_left h]
theorem getD_app_r {α : Type} {a b : List α} {d : α} {i : Nat} : (a ++ b).getD (a.length + i) d = b.getD i d := by
  simp only [List.getD_eq_getElem?_getD, List.getElem?_append_right (Nat.le_add_right _ _), Nat.add_sub_cancel_left]

theorem valsN_mir {g : Gr} (hg : g.chk = 0) {st ins : List Bool} (h1 : st.length = g.next.length) (h2 : (ins.length : Int) = g.ins) : ∀ i : Nat, i ≤ g.ands.length → ∀ n : Nat, n < (valsN g st ins i).length → (valsN g.mir st.reverse ins.reverse i).getD (g.rnum n).toNat false = (valsN g st ins i).getD n false
  | 0, _, n, hn => by
    have e1 : valsN g st ins 0 = [false] ++ (ins ++ st) := by simp [valsN]
    have e2 : valsN g.mir st.reverse ins.reverse 0 = [false] ++ (ins.reverse ++ st.reverse) := by simp [valsN]
    have hl : n < 1 + (ins.length + st.length) := by rw [e1] at hn; simpa [Nat.add_comm] using hn
    rw [e1, e2]
    unfold Gr.rnum
    by_cases c0 : n = 0
    · subst c0
      rw [if_neg (by omega), if_neg (by omega)]
      rfl
    · by_cases c1 : (n : Int) ≤ g.ins
      · rw [if_pos (by omega)]
        obtain ⟨k, rfl⟩ : ∃ k, n = 1 + k := ⟨n - 1, by omega⟩
        rw [show (g.ins + 1 - ((1 + k : Nat) : Int)).toNat = 1 + (ins.length - 1 - k) by omega]
        show ([false] ++ (ins.reverse ++ st.reverse)).getD ([false].length + (ins.length - 1 - k)) false = ([false] ++ (ins ++ st)).getD ([false].length + k) false
        rw [getD_app_r, getD_app_r, getD_app_l (by simp; omega), getD_app_l (by omega), getD_rev (by omega)]
        congr 1; omega
      · rw [if_neg (by omega), if_pos (by omega)]
        obtain ⟨k, rfl⟩ : ∃ k, n = 1 + (ins.length + k) := ⟨n - 1 - ins.length, by omega⟩
        rw [show (2 * g.ins + (g.next.length : Int) + 1 - ((1 + (ins.length + k) : Nat) : Int)).toNat = 1 + (ins.reverse.length + (st.length - 1 - k)) by simp; omega]
        show ([false] ++ (ins.reverse ++ st.reverse)).getD ([false].length + (ins.reverse.length + (st.length - 1 - k))) false = ([false] ++ (ins ++ st)).getD ([false].length + (ins.length + k)) false
        rw [getD_app_r, getD_app_r, getD_app_r, getD_app_r, getD_rev (by omega)]
        congr 1; omega
  | i + 1, hi, n, hn => by
    have ih := valsN_mir hg h1 h2 i (by omega)
    obtain ⟨_, i0, i1, i2, i3, i4, i5⟩ := Gr.ok_of hg
    obtain ⟨o1, o2, o3, o4⟩ := oddAs_at i5 (show i < g.ands.length by omega)
    have wf : g.first = 1 + g.ins + g.next.length := rfl
    have hl := valsN_len (g := g) (st := st) (ins := ins) (i := i) (by omega)
    have hl' := valsN_len (g := g.mir) (st := st.reverse) (ins := ins.reverse) (i := i) (by simp [Gr.mir]; omega)
    have hml : g.mir.ands.length = g.ands.length := by simp [Gr.mir]
    have ema : g.mir.ands[i] = (g.ren g.ands[i].1, g.ren g.ands[i].2) := by simp [Gr.mir]
    rw [valsN_succ (g := g) (by omega), valsN_succ (g := g.mir) (by omega), ema]
    show (valsN g.mir st.reverse ins.reverse i ++ [lv (valsN g.mir st.reverse ins.reverse i) (g.ren g.ands[i].1) && lv (valsN g.mir st.reverse ins.reverse i) (g.ren g.ands[i].2)]).getD _ false = _
    rw [lv_mir i0 ih o1 (by omega), lv_mir i0 ih o2 (by omega)]
    rw [valsN_succ (by omega), List.length_append] at hn
    have hn : n < (valsN g st ins i).length + 1 := hn
    simp only [List.length_reverse] at hl'
    obtain ⟨q0, q1, q2⟩ := Gr.rnum_in (g := g) i0 (v := n) (by omega)
    by_cases hc : n < (valsN g st ins i).length
    · rw [getD_app_l hc, ← ih n hc, getD_app_l]
      by_cases hf : (n : Int) < g.first
      · have := q1 hf; omega
      · have := q2 (by omega); omega
    · have : n = (valsN g st ins i).length := by omega
      subst this
      rw [q2 (by omega), Int.toNat_natCast]
      have e3 : (valsN g st ins i).length = (valsN g.mir st.reverse ins.reverse i).length + 0 := by omega
      have e4 := getD_app_r (a := valsN g st ins i) (b := [lv (valsN g st ins i) g.ands[i].1 && lv (valsN g st ins i) g.ands[i].2]) (d := false) (i := 0)
      rw [Nat.add_zero] at e4
      rw [e4, e3, getD_app_r]

theorem Gr.mir_step {g : Gr} (hg : g.chk = 0) {st ins : List Bool} (h1 : st.length = g.next.length) (h2 : (ins.length : Int) = g.ins) : g.mir.out st.reverse ins.reverse = (g.out st ins).reverse ∧ g.mir.nxt st.reverse ins.reverse = (g.nxt st ins).reverse := by
  have E1 := (Gr.step_ok hg h1 h2).1
  obtain ⟨e1, e2, e3, e4, e5, e6, e7⟩ := Gr.mir_lens g
  have E2 := (Gr.step_ok (Gr.mir_chk hg) (st := st.reverse) (ins := ins.reverse) (by rw [e2]; simpa using h1) (by rw [e1]; simpa using h2)).1
  obtain ⟨l1, l2, l3, l4, l5, l6, l7, l8⟩ := lits_in E1
  obtain ⟨_, i0, i1, i2, i3, i4, i5⟩ := Gr.ok_of hg
  have hv := valsN_mir hg h1 h2 g.ands.length (Nat.le_refl _)
  have ev : g.mir.vals st.reverse ins.reverse = valsN g.mir st.reverse ins.reverse g.ands.length := by unfold Gr.vals; rw [e3]
  have mm : ∀ l : Cl, (∀ a ∈ l, 0 ≤ a ∧ a / 2 < (g.vals st ins).length ∧ a ≤ 1000000000) → (l.reverse.map g.ren).map (lv (g.mir.vals st.reverse ins.reverse)) = (l.map (lv (g.vals st ins))).reverse := fun l hl => by
    rw [← List.map_reverse, List.map_map]
    refine List.map_congr_left fun a ha => ?_
    obtain ⟨a1, a2, a3⟩ := hl a (by simpa using ha)
    show lv (g.mir.vals st.reverse ins.reverse) (g.ren a) = lv (g.vals st ins) a
    rw [ev]
    exact lv_mir i0 hv a1 a2
  unfold Gr.out Gr.nxt
  rw [if_pos E1, if_pos E2, if_pos E1, if_pos E2]
  exact ⟨mm g.outs l1, mm g.next l2⟩

theorem Gr.mir_run {g : Gr} (hg : g.chk = 0) {st : List Bool} (h1 : st.length = g.next.length) : ∀ {sq : List (List Bool)}, (∀ ins ∈ sq, (ins.length : Int) = g.ins) → ∀ i, i ≤ sq.length → (g.mir.run st.reverse ((sq.map List.reverse).take i)).1 = (g.run st (sq.take i)).1.reverse ∧ (g.mir.run st.reverse ((sq.map List.reverse).take i)).2 = (g.run st (sq.take i)).2.reverse
  | sq, h2, 0, _ => by simp [Gr.run]
  | sq, h2, i + 1, hi => by
    obtain ⟨a, b⟩ := Gr.mir_run hg h1 h2 i (by omega)
    have hlt : i < sq.length := by omega
    have hrl := (Gr.run_len hg h1 h2 i (by omega)).1
    obtain ⟨s1, s2⟩ := Gr.mir_step hg hrl (h2 _ (List.getElem_mem hlt))
    rw [Gr.run_succ hlt, Gr.run_succ (by simpa using hlt)]
    simp only [b, List.getElem_map]
    exact ⟨s1, s2⟩

/-! ### A witness the other way round -/
def Wi.mir (m : Mo) (w : Wi) : Wi := ⟨(m.out.length : Int) - 1 - w.bad, w.st.reverse, w.steps.map List.reverse⟩
theorem Wi.ren_mir {m : Mo} {w : Wi} (h : Wi.fits m w = 0) : Wi.ren m m.mir w = w.mir m ∧ Wi.ren m.mir m (w.mir m) = w := by
  have ft := fit_of h
  obtain ⟨d1, d2⟩ := Mo.nd ft.chk
  have d3 := (List.nodup_append.1 d1).1
  have d4 := (List.nodup_append.1 d1).2.1
  obtain ⟨nb, hnb⟩ : ∃ nb : Nat, w.bad = nb := ⟨w.bad.toNat, by have := ft.bad0; omega⟩
  have b1 := ft.bad1
  have hnl : nb < m.out.length := by omega
  have hl2 : m.out.length - 1 - nb < m.out.reverse.length := by simp; omega
  constructor
  · unfold Wi.ren Wi.mir
    rw [hnb, Int.toNat_natCast, getD_at hnl]
    have q1 : idx m.mir.out (· == m.out[nb]) = (m.out.length : Int) - 1 - nb := by
      show idx m.out.reverse _ = _
      rw [idx_rev d2 hnl]; omega
    have q2 : moveV m.lat m.mir.lat w.st = w.st.reverse := moveV_rev d4 ft.st
    have q3 : w.steps.map (moveV m.ins m.mir.ins) = w.steps.map List.reverse := List.map_congr_left fun l hl => moveV_rev d3 (ft.row l hl).1
    rw [q1, q2, q3]
  · unfold Wi.ren Wi.mir
    have q1 : idx m.out (· == m.mir.out.getD ((m.out.length : Int) - 1 - w.bad).toNat []) = w.bad := by
      show idx m.out (· == m.out.reverse.getD _ []) = _
      rw [hnb, show ((m.out.length : Int) - 1 - (nb : Int)).toNat = m.out.length - 1 - nb by omega, getD_at hl2, List.getElem_reverse]
      have e : m.out.length - 1 - (m.out.length - 1 - nb) = nb := by omega
      simp only [e]
      exact findIdx_nd d2 hnl
    have q2 : moveV m.mir.lat m.lat w.st.reverse = w.st := by
      have := moveV_back d4 (l := w.st.reverse) (by rw [List.length_reverse]; exact ft.st)
      rwa [List.reverse_reverse] at this
    have q3 : (w.steps.map List.reverse).map (moveV m.mir.ins m.ins) = w.steps := by
      rw [List.map_map]
      refine (List.map_congr_left (g := id) fun l hl => ?_).trans (List.map_id _)
      have := moveV_back d3 (l := l.reverse) (by rw [List.length_reverse]; exact (ft.row l hl).1)
      rwa [List.reverse_reverse] at this
    show (⟨idx m.out (· == m.mir.out.getD ((m.out.length : Int) - 1 - w.bad).toNat []), moveV m.mir.lat m.lat w.st.reverse, (w.steps.map List.reverse).map (moveV m.mir.ins m.ins)⟩ : Wi) = w
    rw [q1, q2, q3]

theorem Wi.mir_sized {m : Mo} {w : Wi} (h : Wi.sized m w = true) : Wi.sized m.mir (w.mir m) = true := by
  obtain ⟨s1, s2, s3, s4, s5, s6, s7⟩ := sized_parts h
  have e1 : m.mir.out.length = m.out.length := by simp [Mo.mir]
  have e2 : m.mir.lat.length = m.lat.length := by simp [Mo.mir]
  have e3 : m.mir.ins.length = m.ins.length := by simp [Mo.mir]
  unfold Wi.sized Wi.mir
  simp only [e1, e2, List.length_reverse, List.length_map, List.any_reverse, Bool.and_eq_true, decide_eq_true_eq, beq_iff_eq, Bool.not_eq_true']
  refine ⟨by omega, by omega, by omega, s4, by omega, by omega, ?_⟩
  refine List.any_eq_false.2 fun l hl => ?_
  obtain ⟨l', hl', rfl⟩ := List.mem_map.1 hl
  obtain ⟨a, b⟩ := s7 l' hl'
  unfold Mo.rowBad
  rw [e3, List.length_reverse, List.any_reverse, a, b]
  simp

theorem Wi.mir_fits {m : Mo} {w : Wi} (h : Wi.fits m w = 0) : Wi.fits m.mir (w.mir m) = 0 := by
  have ft := fit_of h
  have hs : Wi.sized m w = true := by
    unfold Wi.fits at h
    rw [if_neg (by simp [ft.chk])] at h
    cases hh : Wi.sized m w with
    | true => rfl
    | false => rw [if_pos hh] at h; cases h
  unfold Wi.fits
  rw [if_neg (by simp [Mo.mir_chk ft.chk]), if_neg (by simp [Wi.mir_sized hs]), if_neg]
  have f1 := ft.st
  have f2 := ft.lat
  have f3 := ft.ini
  have key := List.any_eq_false.1 ft.ok
  simp only [Bool.not_eq_true]
  refine List.any_eq_false.2 fun i hi => ?_
  have hi : i < (w.mir m).st.length := List.mem_range.1 hi
  have hl : (w.mir m).st.length = w.st.length := by simp [Wi.mir]
  have := key (w.st.length - 1 - i) (List.mem_range.2 (by omega))
  rw [show m.mir.g.init.getD i 0 = m.g.init.getD (w.st.length - 1 - i) 0 by
    show m.g.init.reverse.getD i 0 = _
    rw [getD_rev (by omega)]; congr 1; omega, show (w.mir m).st.getD i 0 = w.st.getD (w.st.length - 1 - i) 0 by
    show w.st.reverse.getD i 0 = _
    rw [getD_rev (by omega)]]
  exact this

theorem Wi.mir_comes {m : Mo} {w : Wi} (h : Wi.fits m w = 0) : (w.mir m).comes m.mir = w.comes m := by
  have ft := fit_of h
  have f1 := ft.st
  have f2 := ft.lat
  have f3 := ft.ini
  have b0 := ft.bad0
  have b1 := ft.bad1
  have f4 := ft.out
  have hs : Wi.state m.mir (w.mir m) = (Wi.state m w).reverse := by
    refine List.ext_getElem (by simp [Wi.state, stB_len, Wi.mir]) fun i h1 h2 => ?_
    have hi : i < w.st.length := by simpa [Wi.state, stB_len] using h2
    rw [List.getElem_reverse]
    simp only [Wi.state, stB, List.getElem_map, List.getElem_range, List.length_map, List.length_range]
    rw [show m.mir.g.init.getD i 0 = m.g.init.getD (w.st.length - 1 - i) 0 by
      show m.g.init.reverse.getD i 0 = _
      rw [getD_rev (by omega)]; congr 1; omega, show (w.mir m).st.getD i 0 = w.st.getD (w.st.length - 1 - i) 0 by
      show w.st.reverse.getD i 0 = _
      rw [getD_rev (by omega)]]
  have hq : (w.mir m).seq = w.seq.map List.reverse := by
    unfold Wi.seq Wi.mir insB
    rw [List.map_map, List.map_map]
    refine List.map_congr_left fun l _ => ?_
    simp [List.map_reverse]
  have hq2 : ∀ ins ∈ w.seq, (ins.length : Int) = m.g.ins := fun ins hi => by
    simp only [Wi.seq, List.mem_map] at hi
    obtain ⟨l, hl, rfl⟩ := hi
    have := (ft.row l hl).1
    rw [← ft.ins]
    simp only [insB, List.length_map]
    omega
  have hsl : (w.state m).length = m.g.next.length := by rw [← f2, ← f1]; exact stB_len
  obtain ⟨r1, r2⟩ := Gr.mir_run ft.g hsl hq2 w.seq.length (Nat.le_refl _)
  have hrl := (Gr.run_len ft.g hsl hq2 w.seq.length (Nat.le_refl _)).2 (by have := ft.s1; simp [Wi.seq]; omega)
  rw [List.take_length] at r1 hrl
  rw [show w.seq.length = (w.seq.map List.reverse).length by simp, List.take_length] at r1
  unfold Wi.comes
  rw [hs, hq]
  show (m.g.mir.run _ _).1.getD _ _ = _
  rw [r1, getD_rev (by simp only [Wi.mir]; omega)]
  congr 1
  simp only [Wi.mir]
  omega

theorem sortS_rev (l : List S) : sortS l.reverse = sortS l := by
  unfold sortS
  have h := (List.mergeSort_perm l.reverse fun x y => decide (x ≤ y)).trans ((List.reverse_perm l).trans (List.mergeSort_perm l fun x y => decide (x ≤ y)).symm)
  refine List.Perm.eq_of_pairwise (le := fun x y => decide (x ≤ y) = true) ?_ ?_ ?_ h
  · intro a b _ _ h1 h2
    exact List.le_antisymm (by simpa using h1) (by simpa using h2)
  · exact List.pairwise_mergeSort (fun a b c h1 h2 => by simp only [decide_eq_true_eq] at h1 h2 ⊢; exact List.le_trans h1 h2) (fun a b => by simp only [Bool.or_eq_true, decide_eq_true_eq]; exact List.le_total a b) _
  · exact List.pairwise_mergeSort (fun a b c h1 h2 => by simp only [decide_eq_true_eq] at h1 h2 ⊢; exact List.le_trans h1 h2) (fun a b => by simp only [Bool.or_eq_true, decide_eq_true_eq]; exact List.le_total a b) _
theorem Mo.alike_mir (m : Mo) : m.alike m.mir = true ∧ m.mir.alike m = true := by
  unfold Mo.alike Mo.mir
  simp only [sortS_rev]
  simp

theorem renR_mir {m : Mo} {w : Wi} (h : Wi.fits m w = 0) : renR m m.mir w = (w.mir m, 0) ∧ renR m.mir m (w.mir m) = (w, 0) := by
  have ft := fit_of h
  have hc := Mo.mir_chk ft.chk
  have hs : Wi.sized m w = true := by
    unfold Wi.fits at h
    rw [if_neg (by simp [ft.chk])] at h
    cases hh : Wi.sized m w with
    | true => rfl
    | false => rw [if_pos hh] at h; cases h
  obtain ⟨r1, r2⟩ := Wi.ren_mir h
  obtain ⟨a1, a2⟩ := Mo.alike_mir m
  unfold renR
  rw [if_neg (by simp [ft.chk]), if_neg (by simp [hc]), if_neg (by simp [hs]), if_neg (by simp [a1]), if_neg (by simp [hc]), if_neg (by simp [ft.chk]), if_neg (by simp [Wi.mir_sized hs]), if_neg (by simp [a2]), r1, r2]
  exact ⟨rfl, rfl⟩
theorem Wi.same_self (w : Wi) : w.same w = true := by simp [Wi.same]

end Go.Proofs.YtboolnpmlmgpkaaGreatDoor

set_option linter.unusedVariables false
set_option maxRecDepth 20000
set_option linter.unusedSimpArgs false
set_option linter.unnecessarySimpa false
namespace Go.Proofs.YtboolnpmlmgpkaaGreatDoor
open Go Go.Proofs Go.Abs

theorem Gr.mir_sm {g : Gr} (h : g.Sm) : g.mir.Sm := by
  obtain ⟨h1, h2⟩ := h
  exact ⟨by simpa [Gr.mir] using h1, by simpa [Gr.mir] using h2⟩

set_option maxHeartbeats 16000000 in
theorem ev_moves (m : Mo) (w : Wi) (hs : m.g.Sm) : Ev TE 11 [m.v, w.v] (.bool true) := by
  have hM : maxLen = 9223372036854775807 := rfl
  have hf1 := ev_few11 m
  have hf2 := ev_few22 w
  have hft := ev_wfits m w hs
  obtain ⟨M, hMv⟩ : ∃ M, M = m.mir := ⟨_, rfl⟩
  have hrp := ev_wreplay m w hs
  unfold Mo.v Wi.v Wi.replayV at *
  refine Ev.of_awp Tryz.func11 rfl (by simp [nts]) ?_
  
  refine awp_seq (vc_ok mixed _ _ _ _ ?_)
  simp only [sz.down, ↓reduceIte, Nat.reduceEqDiff, Nat.reduceLT, TEP, nts, Tryz.results11]
  refine awp_seq (vc_ok mixed _ _ _ _ ?_)
  simp only [sz.down, Nat.reduceLT, TEP, ens]
  refine ACalls.ev ev_works22 rfl ?_
  simp only [sz.down, ↓reduceIte, Nat.reduceLT, TEP]
  refine awp_seq (vc_ok mixed _ _ _ _ ?_)
  simp only [sz.down, ↓reduceIte, Nat.reduceLT, TEP]
  obtain ⟨few, hfew⟩ : ∃ few : Bool, few = (m.few && w.few) := ⟨_, rfl⟩
  refine awp_seq (awp_mono (Q := fun xe f h => xe = .normal ∧ f.t 2 = .lp 0 0 ∧ f.t 3 = .lp 1 0 ∧ f.t 5 = .bool true ∧ f.t 6 = .bool few ∧ f.d = [] ∧ h = [O.cells [vi m.g.ins, ints m.g.next, ints m.g.init, prs m.g.ands, ints m.g.outs, strs m.ins, strs m.lat, strs m.out], O.cells [vi w.bad, ints w.st, cls w.steps]]) ?_ ?_)
  · rintro xe f h ⟨rfl, h2, h3, h5, h6, hd, rfl⟩
    show awp _ _ _ _ _ _ _
    refine awp_seq (vc_ok mixed _ _ _ _ ?_)
    simp only [sz.down, ↓reduceIte, Nat.reduceEqDiff, Nat.reduceLT, Nat.reduceAdd, reduceCtorEq, TEP, tis, ens, h2, h3]
    refine ACalls.ev hft rfl ?_
    by_cases hc : Wi.fits m w = 0
    · rw [hc]
      rw [if_pos hc] at hrp
      simp only [sz.down, ↓reduceIte, Nat.reduceLT, TEP]
      cases few with
      | false =>
        refine awp_seq (vc_ok mixed _ _ _ _ ?_)
        simp only [sz.down, ↓reduceIte, Nat.reduceEqDiff, Nat.reduceLT, Int.reduceBNe, reduceCtorEq, TEP, h5, h6, hd]
        exact Reif.dat rfl
      | true =>
        refine awp_seq (vc_ok mixed _ _ _ _ ?_)
        simp only [sz.down, ↓reduceIte, Nat.reduceEqDiff, Nat.reduceLT, Int.reduceBNe, TEP, h6]
        have ft := fit_of hc
        obtain ⟨b1, b2, b3⟩ := Mo.small ft.chk
        have hmir := ev_mirror m ft.g b1 b2 b3
        have hMs : M.g.Sm := by rw [hMv]; exact Gr.mir_sm hs
        obtain ⟨rr1, rr2⟩ := renR_mir hc
        have hr1 := ev_rename m M w hs hMs
        have hr2 := ev_rename M m (w.mir m) hMs hs
        have hrp2 := ev_wreplay M (w.mir m) hMs
        have hcm := Wi.mir_comes hc
        have hfm := Wi.mir_fits hc
        have hsm := ev_wsame w w
        rw [Wi.same_self] at hsm
        rw [← hMv] at rr1 rr2 hmir hcm hfm
        rw [rr1] at hr1
        rw [rr2] at hr2
        unfold Wi.replayV at hrp2
        rw [if_pos hfm, hcm] at hrp2
        obtain ⟨x, hx⟩ : ∃ x, x = w.mir m := ⟨_, rfl⟩
        rw [← hx] at hr1 hr2 hrp2
        obtain ⟨cb, hcb⟩ : ∃ cb, cb = w.comes m := ⟨_, rfl⟩
        rw [← hcb] at hrp hrp2
        unfold Mo.v Wi.v at *
        refine awp_seq (vc_ok mixed _ _ _ _ ?_)
        simp only [sz.down, ↓reduceIte, Nat.reduceEqDiff, Nat.reduceLT, Nat.reduceAdd, reduceCtorEq, TEP, tis, ens, h2]
        refine ACalls.ev hmir rfl ?_
        simp only [sz.down, ↓reduceIte, Nat.reduceEqDiff, Nat.reduceLT, Nat.reduceAdd, TEP, tis]
        refine awp_seq (vc_ok mixed _ _ _ _ ?_)
        simp only [sz.down, ↓reduceIte, Nat.reduceEqDiff, Nat.reduceLT, Nat.reduceAdd, reduceCtorEq, TEP, tis, ens, h2, h3]
        refine ACalls.ev hr1 rfl ?_
        simp only [sz.down, ↓reduceIte, Nat.reduceEqDiff, Nat.reduceLT, Nat.reduceAdd, TEP, tis]
        refine awp_seq (vc_ok mixed _ _ _ _ ?_)
        simp only [sz.down, ↓reduceIte, Nat.reduceEqDiff, Nat.reduceLT, Nat.reduceAdd, reduceCtorEq, TEP, tis, ens, h2, h3]
        refine ACalls.ev hrp rfl ?_
        simp only [sz.down, ↓reduceIte, Nat.reduceEqDiff, Nat.reduceLT, Nat.reduceAdd, TEP]
        refine awp_seq (vc_ok mixed _ _ _ _ ?_)
        simp only [sz.down, ↓reduceIte, Nat.reduceEqDiff, Nat.reduceLT, Nat.reduceAdd, reduceCtorEq, TEP, tis, ens]
        refine ACalls.ev hrp2 rfl ?_
        simp only [sz.down, ↓reduceIte, Nat.reduceEqDiff, Nat.reduceLT, Nat.reduceAdd, TEP]
        refine awp_seq (vc_ok mixed _ _ _ _ ?_)
        simp only [sz.down, ↓reduceIte, Nat.reduceEqDiff, Nat.reduceLT, Nat.reduceAdd, reduceCtorEq, TEP, tis, ens, h2]
        refine ACalls.ev hr2 rfl ?_
        simp only [sz.down, ↓reduceIte, Nat.reduceEqDiff, Nat.reduceLT, Nat.reduceAdd, TEP, tis]
        have hbb : (cb == cb) = true := by simp
        refine awp_seq (vc_ok mixed _ _ _ _ ?_)
        simp only [sz.down, ↓reduceIte, Nat.reduceEqDiff, Nat.reduceLT, Nat.reduceAdd, reduceCtorEq, TEP, tis, ens, h3, h5]
        refine ACalls.ev hsm rfl ?_
        simp only [sz.down, ↓reduceIte, Nat.reduceEqDiff, Nat.reduceLT, reduceCtorEq, TEP]
        refine vc_ok mixed _ _ _ _ ?_
        simp only [sz.down, ↓reduceIte, TEP, hd]
        exact Reif.dat rfl
    · have hz : (Wi.fits m w != 0) = true := by simpa using hc
      simp only [sz.down, ↓reduceIte, Nat.reduceLT, TEP]
      cases few with
      | false =>
        refine awp_seq (vc_ok mixed _ _ _ _ ?_)
        simp only [sz.down, ↓reduceIte, Nat.reduceEqDiff, Nat.reduceLT, reduceCtorEq, TEP, h5, h6, hd, hz]
        exact Reif.dat rfl
      | true =>
        refine awp_seq (vc_ok mixed _ _ _ _ ?_)
        simp only [sz.down, ↓reduceIte, Nat.reduceEqDiff, Nat.reduceLT, TEP, h5, h6, hd, hz]
        exact Reif.dat rfl
  · refine vc_ok mixed _ _ _ _ ?_
    simp only [sz.down, ↓reduceIte, Nat.reduceEqDiff, Nat.reduceLT, Nat.reduceAdd, reduceCtorEq, TEP, tis, ens]
    refine ACalls.ev hf1 rfl ?_
    rw [hfew]
    cases m.few with
    | false =>
      simp only [sz.down, ↓reduceIte, Nat.reduceEqDiff, Nat.reduceLT, Nat.reduceAdd, reduceCtorEq, TEP, tis]
      refine ⟨.bool true, ?_⟩
      simp only [sz.down]
    | true =>
      simp only [sz.down, ↓reduceIte, Nat.reduceEqDiff, Nat.reduceLT, Nat.reduceAdd, reduceCtorEq, TEP, tis, ens]
      refine ACalls.ev hf2 rfl ?_
      cases w.few <;> (simp only [sz.down, ↓reduceIte, Nat.reduceEqDiff, Nat.reduceLT, reduceCtorEq, TEP])

end Go.Proofs.YtboolnpmlmgpkaaGreatDoor
