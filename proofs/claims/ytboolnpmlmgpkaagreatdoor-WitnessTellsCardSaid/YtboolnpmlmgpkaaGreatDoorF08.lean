/- Functions of the program, part 08. -/
import Derived.Test.YtboolnpmlmgpkaaGreatDoorF07
set_option linter.unusedVariables false
set_option maxRecDepth 20000
set_option linter.unusedSimpArgs false
set_option linter.unnecessarySimpa false
namespace Go.Proofs.YtboolnpmlmgpkaaGreatDoor
open Go Go.Proofs Go.Abs

def Gr.few (g : Gr) : Bool := (decide (g.ins ≤ 100) || decide (4000 < g.ins)) && (decide ((g.next.length : Int) ≤ 40) && (decide ((g.init.length : Int) ≤ 40) && (decide ((g.ands.length : Int) ≤ 60) && decide ((g.outs.length : Int) ≤ 60))))
set_option maxHeartbeats 4000000 in
theorem ev_few09 (g : Gr) : Ev TE 29 [g.v] (.bool g.few) := by
  unfold Gr.few Gr.v
  refine Ev.of_awp Tryz.func29 rfl (by simp [nts]) (vc_ok mixed _ _ _ _ ?_)
  cases h1 : decide (g.ins ≤ 100) with
  | true =>
    cases h3 : decide ((g.next.length : Int) ≤ 40) with
    | false =>
      simp only [sz.down, ↓reduceIte, Nat.reduceEqDiff, Nat.reduceLT, Nat.reduceLeDiff, Nat.reduceAdd, reduceCtorEq, TEP, tis, nts, Tryz.results29, h1, h3]
      repeat (refine ⟨.bool true, ?_⟩; simp only [sz.down, ↓reduceIte, Nat.reduceEqDiff, Nat.reduceLT, Nat.reduceLeDiff, Nat.reduceAdd, Nat.reduceSub, Int.reduceToNat, Nat.reduceDiv, Int.reduceLT, Int.reduceLE, Int.reduceNeg, Int.reduceBEq, Int.reduceBNe, Int.reduceAdd, Int.reduceSub, Nat.reduceBEq, reduceCtorEq, Nat.reduceMul, sp.down, pvNilI, Tryz.results29, h1, h3])
      exact Reif.dat rfl
    | true =>
      cases h4 : decide ((g.init.length : Int) ≤ 40) with
      | false =>
        simp only [sz.down, ↓reduceIte, Nat.reduceEqDiff, Nat.reduceLT, Nat.reduceLeDiff, Nat.reduceAdd, reduceCtorEq, TEP, tis, nts, Tryz.results29, h1, h3, h4]
        repeat (refine ⟨.bool true, ?_⟩; simp only [sz.down, ↓reduceIte, Nat.reduceEqDiff, Nat.reduceLT, Nat.reduceLeDiff, Nat.reduceAdd, Nat.reduceSub, Int.reduceToNat, Nat.reduceDiv, Int.reduceLT, Int.reduceLE, Int.reduceNeg, Int.reduceBEq, Int.reduceBNe, Int.reduceAdd, Int.reduceSub, Nat.reduceBEq, reduceCtorEq, Nat.reduceMul, sp.down, pvNilI, Tryz.results29, h1, h3, h4])
        exact Reif.dat rfl
      | true =>
        cases h5 : decide ((g.ands.length : Int) ≤ 60) with
        | false =>
          simp only [sz.down, ↓reduceIte, Nat.reduceEqDiff, Nat.reduceLT, Nat.reduceLeDiff, Nat.reduceAdd, reduceCtorEq, TEP, tis, nts, Tryz.results29, h1, h3, h4, h5]
          repeat (refine ⟨.bool true, ?_⟩; simp only [sz.down, ↓reduceIte, Nat.reduceEqDiff, Nat.reduceLT, Nat.reduceLeDiff, Nat.reduceAdd, Nat.reduceSub, Int.reduceToNat, Nat.reduceDiv, Int.reduceLT, Int.reduceLE, Int.reduceNeg, Int.reduceBEq, Int.reduceBNe, Int.reduceAdd, Int.reduceSub, Nat.reduceBEq, reduceCtorEq, Nat.reduceMul, sp.down, pvNilI, Tryz.results29, h1, h3, h4, h5])
          exact Reif.dat rfl
        | true =>
          cases h6 : decide ((g.outs.length : Int) ≤ 60) with
          | false =>
            simp only [sz.down, ↓reduceIte, Nat.reduceEqDiff, Nat.reduceLT, Nat.reduceLeDiff, Nat.reduceAdd, reduceCtorEq, TEP, tis, nts, Tryz.results29, h1, h3, h4, h5, h6]
            repeat (refine ⟨.bool true, ?_⟩; simp only [sz.down, ↓reduceIte, Nat.reduceEqDiff, Nat.reduceLT, Nat.reduceLeDiff, Nat.reduceAdd, Nat.reduceSub, Int.reduceToNat, Nat.reduceDiv, Int.reduceLT, Int.reduceLE, Int.reduceNeg, Int.reduceBEq, Int.reduceBNe, Int.reduceAdd, Int.reduceSub, Nat.reduceBEq, reduceCtorEq, Nat.reduceMul, sp.down, pvNilI, Tryz.results29, h1, h3, h4, h5, h6])
            exact Reif.dat rfl
          | true =>
            simp only [sz.down, ↓reduceIte, Nat.reduceEqDiff, Nat.reduceLT, Nat.reduceLeDiff, Nat.reduceAdd, reduceCtorEq, TEP, tis, nts, Tryz.results29, h1, h3, h4, h5, h6]
            repeat (refine ⟨.bool true, ?_⟩; simp only [sz.down, ↓reduceIte, Nat.reduceEqDiff, Nat.reduceLT, Nat.reduceLeDiff, Nat.reduceAdd, Nat.reduceSub, Int.reduceToNat, Nat.reduceDiv, Int.reduceLT, Int.reduceLE, Int.reduceNeg, Int.reduceBEq, Int.reduceBNe, Int.reduceAdd, Int.reduceSub, Nat.reduceBEq, reduceCtorEq, Nat.reduceMul, sp.down, pvNilI, Tryz.results29, h1, h3, h4, h5, h6])
            exact Reif.dat rfl
  | false =>
    cases h2 : decide (4000 < g.ins) with
    | false =>
      simp only [sz.down, ↓reduceIte, Nat.reduceEqDiff, Nat.reduceLT, Nat.reduceLeDiff, Nat.reduceAdd, TEP, tis, nts, Tryz.results29, h1, h2]
      repeat (refine ⟨.bool true, ?_⟩; simp only [sz.down, ↓reduceIte, Nat.reduceEqDiff, Nat.reduceLT, Nat.reduceLeDiff, Nat.reduceAdd, Nat.reduceSub, Int.reduceToNat, Nat.reduceDiv, Int.reduceLT, Int.reduceLE, Int.reduceNeg, Int.reduceBEq, Int.reduceBNe, Int.reduceAdd, Int.reduceSub, Nat.reduceBEq, reduceCtorEq, Nat.reduceMul, sp.down, pvNilI, Tryz.results29, h1, h2])
      exact Reif.dat rfl
    | true =>
      cases h3 : decide ((g.next.length : Int) ≤ 40) with
      | false =>
        simp only [sz.down, ↓reduceIte, Nat.reduceEqDiff, Nat.reduceLT, Nat.reduceLeDiff, Nat.reduceAdd, reduceCtorEq, TEP, tis, nts, Tryz.results29, h1, h2, h3]
        repeat (refine ⟨.bool true, ?_⟩; simp only [sz.down, ↓reduceIte, Nat.reduceEqDiff, Nat.reduceLT, Nat.reduceLeDiff, Nat.reduceAdd, Nat.reduceSub, Int.reduceToNat, Nat.reduceDiv, Int.reduceLT, Int.reduceLE, Int.reduceNeg, Int.reduceBEq, Int.reduceBNe, Int.reduceAdd, Int.reduceSub, Nat.reduceBEq, reduceCtorEq, Nat.reduceMul, sp.down, pvNilI, Tryz.results29, h1, h2, h3])
        exact Reif.dat rfl
      | true =>
        cases h4 : decide ((g.init.length : Int) ≤ 40) with
        | false =>
          simp only [sz.down, ↓reduceIte, Nat.reduceEqDiff, Nat.reduceLT, Nat.reduceLeDiff, Nat.reduceAdd, reduceCtorEq, TEP, tis, nts, Tryz.results29, h1, h2, h3, h4]
          repeat (refine ⟨.bool true, ?_⟩; simp only [sz.down, ↓reduceIte, Nat.reduceEqDiff, Nat.reduceLT, Nat.reduceLeDiff, Nat.reduceAdd, Nat.reduceSub, Int.reduceToNat, Nat.reduceDiv, Int.reduceLT, Int.reduceLE, Int.reduceNeg, Int.reduceBEq, Int.reduceBNe, Int.reduceAdd, Int.reduceSub, Nat.reduceBEq, reduceCtorEq, Nat.reduceMul, sp.down, pvNilI, Tryz.results29, h1, h2, h3, h4])
          exact Reif.dat rfl
        | true =>
          cases h5 : decide ((g.ands.length : Int) ≤ 60) with
          | false =>
            simp only [sz.down, ↓reduceIte, Nat.reduceEqDiff, Nat.reduceLT, Nat.reduceLeDiff, Nat.reduceAdd, reduceCtorEq, TEP, tis, nts, Tryz.results29, h1, h2, h3, h4, h5]
            repeat (refine ⟨.bool true, ?_⟩; simp only [sz.down, ↓reduceIte, Nat.reduceEqDiff, Nat.reduceLT, Nat.reduceLeDiff, Nat.reduceAdd, Nat.reduceSub, Int.reduceToNat, Nat.reduceDiv, Int.reduceLT, Int.reduceLE, Int.reduceNeg, Int.reduceBEq, Int.reduceBNe, Int.reduceAdd, Int.reduceSub, Nat.reduceBEq, reduceCtorEq, Nat.reduceMul, sp.down, pvNilI, Tryz.results29, h1, h2, h3, h4, h5])
            exact Reif.dat rfl
          | true =>
            cases h6 : decide ((g.outs.length : Int) ≤ 60) with
            | false =>
              simp only [sz.down, ↓reduceIte, Nat.reduceEqDiff, Nat.reduceLT, Nat.reduceLeDiff, Nat.reduceAdd, reduceCtorEq, TEP, tis, nts, Tryz.results29, h1, h2, h3, h4, h5, h6]
              repeat (refine ⟨.bool true, ?_⟩; simp only [sz.down, ↓reduceIte, Nat.reduceEqDiff, Nat.reduceLT, Nat.reduceLeDiff, Nat.reduceAdd, Nat.reduceSub, Int.reduceToNat, Nat.reduceDiv, Int.reduceLT, Int.reduceLE, Int.reduceNeg, Int.reduceBEq, Int.reduceBNe, Int.reduceAdd, Int.reduceSub, Nat.reduceBEq, reduceCtorEq, Nat.reduceMul, sp.down, pvNilI, Tryz.results29, h1, h2, h3, h4, h5, h6])
              exact Reif.dat rfl
            | true =>
              simp only [sz.down, ↓reduceIte, Nat.reduceEqDiff, Nat.reduceLT, Nat.reduceLeDiff, Nat.reduceAdd, reduceCtorEq, TEP, tis, nts, Tryz.results29, h1, h2, h3, h4, h5, h6]
              repeat (refine ⟨.bool true, ?_⟩; simp only [sz.down, ↓reduceIte, Nat.reduceEqDiff, Nat.reduceLT, Nat.reduceLeDiff, Nat.reduceAdd, Nat.reduceSub, Int.reduceToNat, Nat.reduceDiv, Int.reduceLT, Int.reduceLE, Int.reduceNeg, Int.reduceBEq, Int.reduceBNe, Int.reduceAdd, Int.reduceSub, Nat.reduceBEq, reduceCtorEq, Nat.reduceMul, sp.down, pvNilI, Tryz.results29, h1, h2, h3, h4, h5, h6])
              exact Reif.dat rfl

def Mo.few (m : Mo) : Bool := m.g.few && (fewS 40 m.ins && (fewS 40 m.lat && fewS 60 m.out))
theorem ev_few11 (m : Mo) : Ev TE 15 [m.v] (.bool m.few) := by
  have h09 := ev_few09 m.g
  unfold Mo.few Mo.v
  unfold Gr.v at h09
  refine Ev.of_awp Tryz.func15 rfl (by simp [nts]) (vc_ok mixed _ _ _ _ ?_)
  simp only [sz.down, ↓reduceIte, Nat.reduceEqDiff, Nat.reduceLT, Nat.reduceLeDiff, Nat.reduceAdd, reduceCtorEq, TEP, tis, ens, nts, Tryz.results15]
  refine ACalls.ev h09 rfl ?_
  simp only [sz.down, ↓reduceIte, Nat.reduceEqDiff, Nat.reduceLT, Nat.reduceLeDiff, Nat.reduceAdd, TEP, tis, ens]
  refine ACalls.ev (ev_texts5 m.ins 40) rfl ?_
  simp only [sz.down, ↓reduceIte, Nat.reduceEqDiff, Nat.reduceLT, Nat.reduceLeDiff, Nat.reduceAdd, TEP, tis, ens]
  refine ACalls.ev (ev_texts5 m.lat 40) rfl ?_
  simp only [sz.down, ↓reduceIte, Nat.reduceEqDiff, Nat.reduceLT, Nat.reduceAdd, TEP, tis, ens]
  refine ACalls.ev (ev_texts5 m.out 60) rfl ?_
  cases m.g.few <;> cases fewS 40 m.ins <;> cases fewS 40 m.lat <;> cases fewS 60 m.out
  all_goals
    simp only [sz.down, ↓reduceIte, Nat.reduceEqDiff, Nat.reduceLT, reduceCtorEq, TEP]
    repeat (refine ⟨.bool true, ?_⟩; simp only [sz.down, ↓reduceIte, Nat.reduceEqDiff, Nat.reduceLT, Nat.reduceLeDiff, Nat.reduceAdd, Nat.reduceSub, Int.reduceToNat, Nat.reduceDiv, Int.reduceLT, Int.reduceLE, Int.reduceNeg, Int.reduceBEq, Int.reduceBNe, Int.reduceAdd, Int.reduceSub, Nat.reduceBEq, reduceCtorEq, Nat.reduceMul, sp.down, pvNilI, Tryz.results15])
    exact Reif.dat rfl

def Wi.few (w : Wi) : Bool := decide ((w.steps.length : Int) ≤ 42) && (decide ((w.st.length : Int) ≤ 60) && w.steps.all fun l => decide (l.length ≤ 60))
theorem ev_few22 (w : Wi) : Ev TE 35 [w.v] (.bool w.few) := by
  have hM : maxLen = 9223372036854775807 := rfl
  unfold Wi.v
  refine Ev.bnd fun hb => ?_
  refine Ev.of_awp Tryz.func35 rfl (by simp [nts]) (vc_ok mixed _ _ _ _ ?_)
  simp only [sz.down, Nat.reduceLT, TEP, nts, Tryz.results35]
  refine awp_mono (Q := fun xe f h => (xe = .exit 0 ∧ f.t 1 = .lp 0 0 ∧ f.d = [] ∧ h = [.cells [vi w.bad, ints w.st, cls w.steps]] ∧ ∀ l ∈ w.steps.take 43, l.length ≤ 60) ∨ (xe = .ret ∧ f.t 2 = .bool false ∧ f.d = [] ∧ ∃ l ∈ w.steps, 60 < l.length)) ?_ ?_
  · rintro xe f h (⟨rfl, h1, hd, rfl, hall⟩ | ⟨rfl, h2, hd, l, hl, hl2⟩)
    · have heq : w.few = (decide ((w.steps.length : Int) ≤ 42) && decide ((w.st.length : Int) ≤ 60)) := by
        unfold Wi.few
        cases e : decide ((w.steps.length : Int) ≤ 42) with
        | false => rfl
        | true =>
          have e' : w.steps.length ≤ 42 := by simp only [decide_eq_true_eq] at e; omega
          rw [List.take_of_length_le (by omega)] at hall
          rw [show (w.steps.all fun l => decide (l.length ≤ 60)) = true by simpa using hall, Bool.and_true]
      rw [heq]
      cases e : decide ((w.steps.length : Int) ≤ 42) with
      | false =>
        simp only [sz.down, ↓reduceIte, Nat.reduceEqDiff, Nat.reduceLT, Nat.reduceLeDiff, Nat.reduceAdd, TEP, tis, h1, hd, e]
        try (refine ⟨.bool true, ?_⟩; simp only [sz.down, ↓reduceIte, Nat.reduceEqDiff, Nat.reduceLT, Nat.reduceLeDiff, Nat.reduceAdd, Nat.reduceSub, Int.reduceToNat, Nat.reduceDiv, Int.reduceLT, Int.reduceLE, Int.reduceNeg, Int.reduceBEq, Int.reduceBNe, Int.reduceAdd, Int.reduceSub, Nat.reduceBEq, reduceCtorEq, Nat.reduceMul, sp.down, pvNilI, Tryz.results35, h1, hd, e])
        exact Reif.dat rfl
      | true =>
        simp only [sz.down, ↓reduceIte, Nat.reduceEqDiff, Nat.reduceLT, Nat.reduceLeDiff, Nat.reduceAdd, reduceCtorEq, TEP, tis, h1, hd, e]
        exact Reif.dat rfl
    · have heq : w.few = false := by
        unfold Wi.few
        rw [show (w.steps.all fun l => decide (l.length ≤ 60)) = false by
          rw [List.all_eq_false]
          exact ⟨l, hl, by simpa using hl2⟩]
        simp
      rw [heq]
      simp only [sz.down, TEP, hd, h2]
      exact Reif.dat rfl
  · refine awp_loop (fun m f h => ∃ i, m + i = w.steps.length ∧ i ≤ 43 ∧ f.t 1 = .lp 0 0 ∧ f.t 3 = vi i ∧ f.d = [] ∧ h = [.cells [vi w.bad, ints w.st, cls w.steps]] ∧ ∀ l ∈ w.steps.take i, l.length ≤ 60) w.steps.length ⟨0, by omega, by omega, by simp only [sz.down, ↓reduceIte, Nat.reduceEqDiff], by simp only [sz.down, ↓reduceIte]; rfl, by simp only [sz.down], rfl, by simp⟩ ?_
    rintro m f h ⟨i, hm, hi43, h1, h3, hd, rfl, hall⟩
    refine vc_ok mixed _ _ _ _ ?_
    cases e1 : decide ((i : Int) < (w.steps.length : Int)) with
    | false =>
      simp only [sz.down, ↓reduceIte, Nat.reduceEqDiff, Nat.reduceLT, Nat.reduceAdd, reduceCtorEq, TEP, tis, h1, h3, hd, e1]
      have hlen : w.steps.length ≤ i := by simpa using e1
      refine .inl fun l hl => ?_
      exact hall l (by rw [List.take_of_length_le (by omega)]; exact List.mem_of_mem_take hl)
    | true =>
      have hlt : i < w.steps.length := by simpa using e1
      cases e2 : decide ((i : Int) ≤ 42) with
      | false =>
        simp only [sz.down, ↓reduceIte, Nat.reduceEqDiff, Nat.reduceLT, Nat.reduceAdd, reduceCtorEq, TEP, tis, h1, h3, hd, e1, e2]
        have hi : i = 43 := by simp only [decide_eq_false_iff_not] at e2; omega
        rw [hi] at hall
        exact .inl hall
      | true =>
        have hi : i ≤ 42 := by simp only [decide_eq_true_eq] at e2; omega
        simp only [sz.down, ↓reduceIte, Nat.reduceEqDiff, Nat.reduceLT, Nat.reduceAdd, reduceCtorEq, TEP, tis, h1, h3, e1, e2, getC hlt]
        refine ⟨⟨by omega, by omega⟩, vcB.mk (fun hc => ?_) (fun hc => ?_)⟩
        · simp only [decide_eq_true_eq] at hc
          simp only [sz.down, ↓reduceIte, Nat.reduceEqDiff, Nat.reduceLT, reduceCtorEq, TEP, hd]
          exact .inr ⟨_, List.getElem_mem hlt, by omega⟩
        · simp only [decide_eq_false_iff_not] at hc
          simp only [sz.down, ↓reduceIte, Nat.reduceEqDiff, Nat.reduceLT, TEP, h3, wrap_succ (show i < maxLen by omega)]
          exact .inl ⟨m - 1, by omega, i + 1, by omega, by omega, h1, by simp only [sz.down, ↓reduceIte], hd, rfl, fun l hl => by
            rw [List.take_add_one, List.getElem?_eq_getElem hlt] at hl
            rcases List.mem_append.1 hl with hl | hl
            · exact hall l hl
            · have : l = w.steps[i] := by simpa using hl
              rw [this]; omega⟩

theorem ev_of22 (w : Wi) : Ev TE 37 [w.v] w.v := by
  unfold Wi.v
  refine Ev.of_awp Tryz.func37 rfl (by simp [nts]) (vc_ok mixed _ _ _ _ ?_)
  simp only [sz.down, ↓reduceIte, Nat.reduceEqDiff, Nat.reduceLT, Nat.reduceLeDiff, Nat.reduceAdd, reduceCtorEq, TEP, tis, nts, Tryz.results37]
  exact Reif.dat (by simp only [V.dat, V.dats, Bool.and_self])

end Go.Proofs.YtboolnpmlmgpkaaGreatDoor

set_option linter.unusedVariables false
set_option maxRecDepth 20000
set_option linter.unusedSimpArgs false
set_option linter.unnecessarySimpa false
namespace Go.Proofs.YtboolnpmlmgpkaaGreatDoor
open Go Go.Proofs Go.Abs

abbrev s22 : S := [49, 10, 98, 48, 10, 10, 49, 10, 46, 10]
abbrev w22 : Wi := ⟨0, [], [[1]]⟩
abbrev m22 : Mo := ⟨⟨1, [], [], [], [2]⟩, [[97]], [], [[122]]⟩
abbrev k22 : Mo := ⟨⟨1, [], [], [], [2]⟩, [[97]], [], [[121]]⟩
theorem get22 : getR s22 3 = (0, 4, 0) := by decide +kernel
theorem get22b : getR [49, 10, 98, 48, 10, 50, 10, 46, 10] 3 = (0, 4, 0) := by decide +kernel
theorem parse22 : parseV s22 = .tup [w22.v, .agg [vi 0, vi 0, vi 0]] := by
  unfold parseV parseR
  rw [get22]
  rfl
theorem parse22b : parseV [49, 10, 98, 48, 10, 50, 10, 46, 10] = .tup [.agg [vi 0, ints [], cls []], .agg [vi 2, vi 3, vi 1]] := by
  unfold parseV parseR
  rw [get22b]
  rfl
theorem print22 : w22.printV = (s22, 0) := by decide +kernel
theorem fits22 : Wi.fits m22 w22 = 0 := rfl
theorem fits22b : Wi.fits m22 ⟨0, [], []⟩ = 1 := rfl
theorem replay22 : w22.replayV m22 = .tup [.bool true, vi 0] := rfl
theorem start22 : w22.startV m22 = .tup [bools [], rwB [[true]], vi 0] := rfl
theorem chk22 : m22.chk = 0 := rfl
theorem chk22b : k22.chk = 0 := rfl
theorem sort1 (a : S) : sortS [a] = [a] := List.mergeSort_singleton _
theorem sort0 : sortS [] = [] := List.mergeSort_nil
theorem alike22 : m22.alike m22 = true := by
  unfold Mo.alike
  rw [show m22.ins = [[97]] from rfl, show m22.lat = [] from rfl, show m22.out = [[122]] from rfl, sort1, sort1, sort0]
  decide
theorem alike22b : m22.alike k22 = false := by
  unfold Mo.alike
  rw [show m22.ins = [[97]] from rfl, show m22.lat = [] from rfl, show m22.out = [[122]] from rfl, show k22.out = [[121]] from rfl, sort1, sort1, sort1, sort0]
  decide
theorem ren22 : renR m22 m22 w22 = (w22, 0) := by
  unfold renR
  rw [if_neg (by rw [chk22]; decide), if_neg (by rw [chk22]; decide), if_neg (by decide), if_neg (by rw [alike22]; decide)]
  rfl
theorem ren22b : renR m22 k22 w22 = (⟨0, [], []⟩, 12) := by
  unfold renR
  rw [if_neg (by rw [chk22]; decide), if_neg (by rw [chk22b]; decide), if_neg (by decide), if_pos alike22b]

theorem vle_agg {vs vs' : List V} (h : VLes vs vs') : VLe (.agg vs) (.agg vs') := fun c x hx => by
  simp only [VRel] at hx ⊢
  obtain ⟨cs, h1, h2⟩ := hx
  exact ⟨cs, h1, h _ _ h2⟩
theorem vle_nilW : VLe (.agg [vi 0, .nils, .nils]) (Wi.v ⟨0, [], []⟩) := vle_agg (VLes.cons (VLe.refl _) (VLes.cons VLe.nils_is (VLes.cons VLe.nils_is (VLes.refl _))))
set_option maxHeartbeats 8000000 in
theorem ev_works22 : Ev TE 34 [] (.bool true) := by
  have hsm : m22.g.Sm := ⟨by decide, by decide⟩
  have hsk : k22.g.Sm := ⟨by decide, by decide⟩
  have e1 := ev_wparse s22 (by decide)
  rw [parse22] at e1
  have e2 := ev_wprint w22 (by decide)
  rw [print22] at e2
  have e3 := ev_wreplay m22 w22 hsm
  rw [replay22] at e3
  have e4 := ev_rename m22 k22 w22 hsm hsk
  rw [ren22b] at e4
  have e5 := ev_rename m22 m22 w22 hsm hsm
  rw [ren22] at e5
  have e6 := ev_wparse [49, 10, 98, 48, 10, 50, 10, 46, 10] (by decide)
  rw [parse22b] at e6
  have e7 := ev_wstart m22 w22 hsm
  rw [start22] at e7
  have e8 := ev_wfits m22 ⟨0, [], []⟩ hsm
  rw [fits22b] at e8
  have e9 := ev_wsame w22 w22
  have e10 := ev_wsame w22 ⟨0, [], []⟩
  refine Ev.of_awp Tryz.func34 rfl (by simp [nts]) ?_
  
  refine awp_seq (vc_ok mixed _ _ _ _ ?_)
  simp only [sz.down, Nat.reduceLT, TEP, nts, Tryz.results34]
  refine awp_seq (vc_ok mixed _ _ _ _ ?_)
  simp only [sz.down, ↓reduceIte, Nat.reduceLT, Nat.reduceLeDiff, Nat.reduceAdd, TEP, ens]
  refine ACalls.ev e1 rfl ?_
  simp only [sz.down, ↓reduceIte, Nat.reduceEqDiff, Nat.reduceLT, Nat.reduceAdd, TEP, tis]
  refine awp_seq (vc_ok mixed _ _ _ _ ?_)
  simp only [sz.down, ↓reduceIte, Nat.reduceEqDiff, Nat.reduceLT, Nat.reduceAdd, reduceCtorEq, TEP, tis, ens]
  refine ACalls.ev e2 rfl ?_
  simp only [sz.down, ↓reduceIte, Nat.reduceEqDiff, Nat.reduceLT, Nat.reduceAdd, TEP]
  refine awp_seq (vc_ok mixed _ _ _ _ ?_)
  simp only [sz.down, ↓reduceIte, Nat.reduceEqDiff, Nat.reduceLT, Nat.reduceLeDiff, Nat.reduceAdd, reduceCtorEq, Nat.reduceMul, TEP, tis]
  refine ⟨⟨rfl, by decide⟩, ⟨rfl, by decide⟩, ⟨rfl, by decide⟩, ?_⟩
  refine awp_leH (h' := [.cells [vi 0, ints [], cls [[1]]], .cells [vi 0, vi 0, vi 0], .cells [vi 1, ints [], ints [], prs [], ints [2], strs [[97]], strs [], strs [[122]]]])
    (HLe.set (i := 2) (o' := .cells [vi 1, ints [], ints [], prs [], ints [2], strs [[97]], strs [], strs [[122]]]) rfl (OLe.cells (Nat.le_refl _) (VLes.cons (VLe.refl _) (VLes.cons VLe.nils_is (VLes.cons VLe.nils_is (VLes.cons VLe.nils_is (VLes.cons VLe.inexact (VLes.cons VLe.inexact (VLes.cons VLe.nils_is (VLes.cons VLe.inexact (VLes.refl _))))))))))) ?_
  refine awp_seq (vc_ok mixed _ _ _ _ ?_)
  simp only [sz.down, ↓reduceIte, Nat.reduceEqDiff, Nat.reduceLT, Nat.reduceAdd, reduceCtorEq, TEP, tis, ens]
  refine ACalls.ev e3 rfl ?_
  simp only [sz.down, ↓reduceIte, Nat.reduceEqDiff, Nat.reduceLT, Nat.reduceAdd, TEP]
  refine awp_seq (vc_ok mixed _ _ _ _ ?_)
  simp only [sz.down, ↓reduceIte, Nat.reduceEqDiff, Nat.reduceLT, Nat.reduceAdd, reduceCtorEq, TEP, tis]
  refine awp_seq (vc_ok mixed _ _ _ _ ?_)
  simp only [sz.down, ↓reduceIte, Nat.reduceEqDiff, Nat.reduceLT, Nat.reduceLeDiff, Nat.reduceAdd, reduceCtorEq, Nat.reduceMul, TEP, tis]
  refine ⟨⟨rfl, by decide⟩, ?_⟩
  refine awp_leH (h' := [.cells [vi 0, ints [], cls [[1]]], .cells [vi 0, vi 0, vi 0], .cells [vi 1, ints [], ints [], prs [], ints [2], strs [[97]], strs [], strs [[122]]], .cells [vi 1, ints [], ints [], prs [], ints [2], strs [[97]], strs [], strs [[121]]]])
    (HLe.set (i := 3) (o' := .cells [vi 1, ints [], ints [], prs [], ints [2], strs [[97]], strs [], strs [[121]]]) rfl (OLe.cells (Nat.le_refl _) (VLes.cons (VLe.refl _) (VLes.cons (VLe.refl _) (VLes.cons (VLe.refl _) (VLes.cons (VLe.refl _) (VLes.cons (VLe.refl _) (VLes.cons (VLe.refl _) (VLes.cons (VLe.refl _) (VLes.cons VLe.inexact (VLes.refl _))))))))))) ?_
  refine awp_seq (vc_ok mixed _ _ _ _ ?_)
  simp only [sz.down, ↓reduceIte, Nat.reduceEqDiff, Nat.reduceLT, Nat.reduceAdd, reduceCtorEq, TEP, tis, ens]
  refine ACalls.ev e4 rfl ?_
  simp only [sz.down, ↓reduceIte, Nat.reduceEqDiff, Nat.reduceLT, Nat.reduceAdd, TEP, tis]
  refine awp_seq (vc_ok mixed _ _ _ _ ?_)
  simp only [sz.down, ↓reduceIte, Nat.reduceEqDiff, Nat.reduceLT, Nat.reduceAdd, reduceCtorEq, TEP, tis, ens]
  refine ACalls.ev e5 rfl ?_
  simp only [sz.down, ↓reduceIte, Nat.reduceEqDiff, Nat.reduceLT, Nat.reduceAdd, TEP, tis]
  refine awp_seq (vc_ok mixed _ _ _ _ ?_)
  simp only [sz.down, ↓reduceIte, Nat.reduceLT, Nat.reduceLeDiff, Nat.reduceAdd, TEP, ens]
  refine ACalls.ev e6 rfl ?_
  simp only [sz.down, ↓reduceIte, Nat.reduceEqDiff, Nat.reduceLT, Nat.reduceAdd, TEP, tis]
  refine awp_seq (vc_ok mixed _ _ _ _ ?_)
  simp only [sz.down, ↓reduceIte, Nat.reduceEqDiff, Nat.reduceLT, Nat.reduceAdd, reduceCtorEq, TEP, tis, ens]
  refine ACalls.ev e7 rfl ?_
  simp only [sz.down, ↓reduceIte, Nat.reduceEqDiff, Nat.reduceLT, Nat.reduceAdd, TEP]
  have q0 : (((0 : Nat) : Int) == 0) = true := rfl
  have q1 : (((1 : Nat) : Int) == 1) = true := rfl
  have q2 : w22.same w22 = true := rfl
  have q3 : w22.same ⟨0, [], []⟩ = false := rfl
  refine awp_seq (vc_ok mixed _ _ _ _ ?_)
  simp only [sz.down, ↓reduceIte, Nat.reduceEqDiff, Nat.reduceLT, Nat.reduceLeDiff, Nat.reduceAdd, reduceCtorEq, TEP, tis, ens, q0, q1, ia_fail]
  refine ACalls.ev e9 rfl ?_
  rw [q2]
  simp only [sz.down, ↓reduceIte, Nat.reduceEqDiff, Nat.reduceLT, Nat.reduceLeDiff, Nat.reduceAdd, Int.reduceLE, reduceCtorEq, TEP, tis, ens, q1, ia_fail]
  refine ⟨by decide, by decide, ACalls.ev (e8.les (VLes.cons (VLe.refl _) (VLes.cons vle_nilW (VLes.refl _)))) rfl ?_⟩
  simp only [sz.down, ↓reduceIte, Nat.reduceEqDiff, Nat.reduceLT, Nat.reduceAdd, reduceCtorEq, TEP, tis, ens]
  refine ACalls.ev (e10.les (VLes.cons (VLe.refl _) (VLes.cons vle_nilW (VLes.refl _)))) rfl ?_
  rw [q3]
  simp only [sz.down, ↓reduceIte, Nat.reduceEqDiff, Nat.reduceLT, reduceCtorEq, TEP]
  refine vc_ok mixed _ _ _ _ ?_
  simp only [sz.down, ↓reduceIte, TEP]
  exact Reif.dat rfl

end Go.Proofs.YtboolnpmlmgpkaaGreatDoor

set_option linter.unusedVariables false
set_option maxRecDepth 20000
set_option linter.unusedSimpArgs false
set_option linter.unnecessarySimpa false
namespace Go.Proofs.YtboolnpmlmgpkaaGreatDoor
open Go Go.Proofs Go.Abs

theorem Wi.small (w : Wi) (m : Mo) (h : Wi.fits m w = 0) : w.steps.length ≤ 40 := (fit_of h).s2
theorem stB_get {m : Mo} {w : Wi} {i n : Nat} (h : i < n) (h2 : i < (stB m w n).length) : (stB m w n)[i] = stv (m.g.init.getD i 0) (w.st.getD i 0) := by simp [stB]

theorem s00 : stv 0 0 = false := rfl
theorem s02 : stv 0 2 = false := rfl
theorem s11 : stv 1 1 = true := rfl
theorem s12 : stv 1 2 = true := rfl
theorem s20 : stv 2 0 = false := rfl
theorem s21 : stv 2 1 = true := rfl
theorem s22v : stv 2 2 = false := rfl
set_option maxHeartbeats 16000000 in
theorem ev_runs (m : Mo) (w : Wi) (hs : m.g.Sm) : Ev TE 12 [m.v, w.v] (.bool true) := by
  have hM : maxLen = 9223372036854775807 := rfl
  have hf1 := ev_few11 m
  have hf2 := ev_few22 w
  have hst := ev_wstart m w hs
  have hrp := ev_wreplay m w hs
  unfold Wi.startV at hst
  unfold Wi.replayV at hrp
  have hsp := fun st ins => ev_astep m.g st ins hs
  unfold Mo.v Wi.v at *
  refine Ev.of_awp Tryz.func12 rfl (by simp [nts]) ?_
  
  refine awp_seq (vc_ok mixed _ _ _ _ ?_)
  simp only [sz.down, ↓reduceIte, Nat.reduceEqDiff, Nat.reduceLT, TEP, nts, Tryz.results12]
  refine awp_seq (vc_ok mixed _ _ _ _ ?_)
  simp only [sz.down, Nat.reduceLT, TEP, ens]
  refine ACalls.ev ev_works22 rfl ?_
  simp only [sz.down, ↓reduceIte, Nat.reduceLT, TEP]
  refine awp_seq (vc_ok mixed _ _ _ _ ?_)
  simp only [sz.down, ↓reduceIte, Nat.reduceLT, TEP]
  obtain ⟨few, hfew⟩ : ∃ few : Bool, few = (m.few && w.few) := ⟨_, rfl⟩
  refine awp_seq (awp_mono (Q := fun xe f h => xe = .normal ∧ f.t 2 = .lp 0 0 ∧ f.t 3 = .lp 1 0 ∧ f.t 5 = .bool true ∧ f.t 6 = .bool few ∧ f.d = [] ∧ h = [O.cells [vi m.g.ins, ints m.g.next, ints m.g.init, prs m.g.ands, ints m.g.outs, strs m.ins, strs m.lat, strs m.out], O.cells [vi w.bad, ints w.st, cls w.steps]]) ?_ ?_)
  · rintro xe f h ⟨rfl, h2, h3, h5, h6, hd, rfl⟩
    show awp _ _ _ _ _ _ _
    refine awp_seq (vc_ok mixed _ _ _ _ ?_)
    simp only [sz.down, ↓reduceIte, Nat.reduceEqDiff, Nat.reduceLT, Nat.reduceAdd, reduceCtorEq, TEP, tis, ens, h2, h3]
    refine ACalls.ev hst rfl ?_
    by_cases hc : Wi.fits m w = 0
    · rw [if_pos hc] at hst hrp ⊢
      have ft := fit_of hc
      simp only [sz.down, ↓reduceIte, Nat.reduceEqDiff, Nat.reduceLT, Nat.reduceAdd, TEP]
      refine awp_seq (vc_ok mixed _ _ _ _ ?_)
      simp only [sz.down, ↓reduceIte, Nat.reduceEqDiff, Nat.reduceLT, Nat.reduceAdd, reduceCtorEq, TEP, tis, ens, h2, h3]
      refine ACalls.ev hrp rfl ?_
      simp only [sz.down, ↓reduceIte, Nat.reduceEqDiff, Nat.reduceLT, Nat.reduceAdd, TEP]
      cases few with
      | false =>
        refine awp_seq (vc_ok mixed _ _ _ _ ?_)
        simp only [sz.down, ↓reduceIte, Nat.reduceEqDiff, Nat.reduceLT, Int.reduceBNe, reduceCtorEq, TEP, h5, h6, hd]
        exact Reif.dat rfl
      | true =>
        refine awp_seq (vc_ok mixed _ _ _ _ ?_)
        simp only [sz.down, ↓reduceIte, Nat.reduceEqDiff, Nat.reduceLT, Int.reduceBNe, TEP, h6]
        have hql : w.seq.length = w.steps.length := by simp [Wi.seq]
        have hsl : (w.state m).length = m.g.next.length := by rw [← ft.lat, ← ft.st]; exact stB_len
        have hql2 : ∀ ins ∈ w.seq, (ins.length : Int) = m.g.ins := fun ins hi => by
          simp only [Wi.seq, List.mem_map] at hi
          obtain ⟨l, hl, rfl⟩ := hi
          have := (ft.row l hl).1
          rw [← ft.ins]
          simp only [insB, List.length_map]
          omega
        have f2 := ft.s2
        have f1 := ft.st1
        have fl := ft.lat
        have fs := ft.st
        have fi := ft.ini
        obtain ⟨S0, hS0⟩ : ∃ S0, S0 = w.state m := ⟨_, rfl⟩
        have hS0l : S0.length = w.st.length := by rw [hS0]; exact stB_len
        rw [← hS0] at hsl ⊢
        refine awp_seq (awp_seq (awp_mono (Q := fun xe f h => xe = .normal ∧ f.t 2 = .lp 0 0 ∧ f.t 3 = .lp 1 0 ∧ f.t 5 = .bool true ∧ f.t 7 = bools S0 ∧ f.t 8 = rwB w.seq ∧ f.t 10 = .bool (w.comes m) ∧ f.t 12 = vi 0 ∧ f.d = [] ∧ h = [O.cells [vi m.g.ins, ints m.g.next, ints m.g.init, prs m.g.ands, ints m.g.outs, strs m.ins, strs m.lat, strs m.out], O.cells [vi w.bad, ints w.st, cls w.steps]]) ?_ ?_))
        · rintro xe f h ⟨rfl, h2, h3, h5, h7, h8, h10, h12, hd, rfl⟩
          show awp _ _ _ _ _ _ _
          refine awp_mono (Q := fun xe f h => xe = .normal ∧ f.t 2 = .lp 0 0 ∧ f.t 3 = .lp 1 0 ∧ f.t 5 = .bool true ∧ f.t 7 = bools S0 ∧ f.t 8 = rwB w.seq ∧ f.t 10 = .bool (w.comes m) ∧ f.d = [] ∧ h = [O.cells [vi m.g.ins, ints m.g.next, ints m.g.init, prs m.g.ands, ints m.g.outs, strs m.ins, strs m.lat, strs m.out], O.cells [vi w.bad, ints w.st, cls w.steps]]) ?_ ?_
          · rintro xe f h ⟨rfl, h2, h3, h5, h7, h8, h10, hd, rfl⟩
            show awp _ _ _ _ _ _ _
            refine awp_seq (vc_ok mixed _ _ _ _ ?_)
            simp only [sz.down, Nat.reduceLT, TEP]
            refine awp_seq (awp_seq (awp_mono (Q := fun xe f h => xe = .normal ∧ f.t 2 = .lp 0 0 ∧ f.t 3 = .lp 1 0 ∧ f.t 5 = .bool true ∧ f.t 7 = bools S0 ∧ f.t 8 = rwB w.seq ∧ f.t 10 = .bool (w.comes m) ∧ f.t 14 = .bool false ∧ f.t 15 = vi 0 ∧ f.d = [] ∧ h = [O.cells [vi m.g.ins, ints m.g.next, ints m.g.init, prs m.g.ands, ints m.g.outs, strs m.ins, strs m.lat, strs m.out], O.cells [vi w.bad, ints w.st, cls w.steps]]) ?_ ?_))
            · rintro xe f h ⟨rfl, h2, h3, h5, h7, h8, h10, h14, h15, hd, rfl⟩
              show awp _ _ _ _ _ _ _
              refine awp_mono (Q := fun xe f h => xe = .normal ∧ f.t 3 = .lp 1 0 ∧ f.t 5 = .bool true ∧ f.t 8 = rwB w.seq ∧ f.t 10 = .bool (w.comes m) ∧ f.t 14 = .bool (w.comes m) ∧ f.d = [] ∧ h = [O.cells [vi m.g.ins, ints m.g.next, ints m.g.init, prs m.g.ands, ints m.g.outs, strs m.ins, strs m.lat, strs m.out], O.cells [vi w.bad, ints w.st, cls w.steps]]) ?_ ?_
              · rintro xe f h ⟨rfl, h3, h5, h8, h10, h14, hd, rfl⟩
                have hcl : ((w.seq.length : Int) == (w.steps.length : Int)) = true := by rw [hql]; simp
                refine vc_ok mixed _ _ _ _ ?_
                simp only [sz.down, ↓reduceIte, Nat.reduceEqDiff, Nat.reduceLT, Nat.reduceAdd, reduceCtorEq, TEP, tis, h3, h5, h8, h10, h14, hd, hql]
                exact Reif.dat rfl
              · refine awp_block ?_
                refine awp_loop (fun k f h => ∃ i, k + i = w.seq.length ∧ f.t 2 = .lp 0 0 ∧ f.t 3 = .lp 1 0 ∧ f.t 5 = .bool true ∧ f.t 7 = bools (m.g.run S0 (w.seq.take i)).2 ∧ f.t 8 = rwB w.seq ∧ f.t 10 = .bool (w.comes m) ∧ f.t 15 = vi i ∧ (0 < i → f.t 14 = .bool ((m.g.run S0 (w.seq.take i)).1.getD w.bad.toNat false)) ∧ f.d = [] ∧ h = [O.cells [vi m.g.ins, ints m.g.next, ints m.g.init, prs m.g.ands, ints m.g.outs, strs m.ins, strs m.lat, strs m.out], O.cells [vi w.bad, ints w.st, cls w.steps]]) w.seq.length ⟨0, by omega, h2, h3, h5, h7, h8, h10, h15, fun h => absurd h (Nat.lt_irrefl 0), hd, rfl⟩ ?_
                rintro k f h ⟨i, hk, h2, h3, h5, h7, h8, h10, h15, h14, hd, rfl⟩
                refine vc_ok mixed _ _ _ _ ?_
                simp only [sz.down, ↓reduceIte, Nat.reduceEqDiff, Nat.reduceLT, TEP, tis, h8, h15]
                refine vcB.mk (fun hlt => ?_) (fun hlt => ?_)
                · simp only [decide_eq_true_eq, Int.ofNat_lt] at hlt
                  have hw := wrap_succ (show i < maxLen by omega)
                  have hgi : (w.seq.map fun c => bools c).getD i .any = bools w.seq[i] := getRw hlt _
                  have hrl := Gr.run_len ft.g hsl hql2 i (by omega)
                  have hst := Gr.step_ok ft.g hrl.1 (hql2 _ (List.getElem_mem hlt))
                  have hsp' := hsp (m.g.run S0 (w.seq.take i)).2 w.seq[i]
                  rw [hst.1] at hsp'
                  simp only [sz.down, ↓reduceIte, Nat.reduceEqDiff, Nat.reduceLT, Nat.reduceLeDiff, Nat.reduceAdd, reduceCtorEq, TEP, tis, h2, h7, h8, h15, hgi]
                  refine ⟨by decide +kernel, ⟨by omega, by omega⟩, vcEv.mk hsp' rfl rfl ?_⟩
                  obtain ⟨O1, hO1⟩ : ∃ O1, O1 = m.g.out (m.g.run S0 (w.seq.take i)).2 w.seq[i] := ⟨_, rfl⟩
                  obtain ⟨X1, hX1⟩ : ∃ X1, X1 = m.g.nxt (m.g.run S0 (w.seq.take i)).2 w.seq[i] := ⟨_, rfl⟩
                  have hO1l := hst.2.1
                  rw [← hO1] at hO1l ⊢
                  rw [← hX1]
                  obtain ⟨b, hb⟩ : ∃ b : Nat, w.bad = b := ⟨w.bad.toNat, by have := ft.bad0; omega⟩
                  have b1 := ft.bad1
                  have b2 := ft.out
                  have hbl : b < O1.length := by omega
                  have hge : decide ((O1.length : Int) ≤ (b : Int)) = false := by rw [decide_eq_false_iff_not]; omega
                  simp only [sz.down, ↓reduceIte, Nat.reduceEqDiff, Nat.reduceLT, Nat.reduceLeDiff, Nat.reduceAdd, Int.reduceBNe, TEP, tis, h3, h15, hb, hge, getB hbl, hw]
                  refine ⟨⟨by omega, by omega⟩, .inl ⟨k - 1, by omega, i + 1, by omega, by simp only [sz.down, ↓reduceIte, Nat.reduceEqDiff, h2], by simp only [sz.down, ↓reduceIte, Nat.reduceEqDiff, h3], by simp only [sz.down, ↓reduceIte, Nat.reduceEqDiff, h5], ?_, by simp only [sz.down, ↓reduceIte, Nat.reduceEqDiff, h8], by simp only [sz.down, ↓reduceIte, Nat.reduceEqDiff, h10], by simp only [sz.down, ↓reduceIte], fun _ => ?_, by simp only [sz.down, hd], rfl⟩⟩
                  · rw [Gr.run_succ hlt, hX1]; rfl
                  · rw [Gr.run_succ hlt, ← hO1, getD_at hbl]; rfl
                · simp only [decide_eq_false_iff_not, Int.ofNat_lt] at hlt
                  have hi : i = w.seq.length := by omega
                  subst hi
                  have h14 := h14 (by rw [hql]; exact ft.s1)
                  rw [List.take_length, hS0] at h14
                  simp only [sz.down, ↓reduceIte, Nat.reduceEqDiff, h3, h5, h8, h10, hd, h14]
                  rfl
            · refine vc_ok mixed _ _ _ _ ?_
              simp only [sz.down, ↓reduceIte, Nat.reduceEqDiff, Nat.reduceLT, TEP, h2, h3, h5, h7, h8, h10, hd]
          · refine awp_block ?_
            refine awp_loop (fun k f h => ∃ i, k + i = S0.length ∧ f.t 2 = .lp 0 0 ∧ f.t 3 = .lp 1 0 ∧ f.t 5 = .bool true ∧ f.t 7 = bools S0 ∧ f.t 8 = rwB w.seq ∧ f.t 10 = .bool (w.comes m) ∧ f.t 12 = vi i ∧ f.d = [] ∧ h = [O.cells [vi m.g.ins, ints m.g.next, ints m.g.init, prs m.g.ands, ints m.g.outs, strs m.ins, strs m.lat, strs m.out], O.cells [vi w.bad, ints w.st, cls w.steps]]) S0.length ⟨0, by omega, h2, h3, h5, h7, h8, h10, h12, hd, rfl⟩ ?_
            rintro k f h ⟨i, hk, h2, h3, h5, h7, h8, h10, h12, hd, rfl⟩
            refine vc_ok mixed _ _ _ _ ?_
            simp only [sz.down, ↓reduceIte, Nat.reduceEqDiff, Nat.reduceLT, TEP, tis, h7, h12]
            refine vcB.mk (fun hlt => ?_) (fun hlt => ?_)
            · simp only [decide_eq_true_eq, Int.ofNat_lt] at hlt
              have hw := wrap_succ (show i < maxLen by omega)
              have l1 : i < m.g.init.length := by omega
              have l2 : i < w.st.length := by omega
              have hn := ft.iniv _ (List.getElem_mem l1)
              have hv := ft.stv _ (List.getElem_mem l2)
              have hok : clash m.g.init[i] w.st[i] = false := by
                have := List.any_eq_false.1 ft.ok i (List.mem_range.2 l2)
                rw [getD_at l1, getD_at l2] at this
                simpa using this
              have hS : S0[i] = stv m.g.init[i] w.st[i] := by
                have : S0[i]? = some (stv m.g.init[i] w.st[i]) := by
                  rw [hS0]
                  unfold Wi.state stB
                  rw [List.getElem?_map, List.getElem?_range l2]
                  simp only [Option.map_some, getD_at l1, getD_at l2]
                rw [List.getElem?_eq_getElem hlt] at this
                exact Option.some.inj this
              obtain ⟨n, en⟩ : ∃ n, n = m.g.init[i] := ⟨_, rfl⟩
              obtain ⟨v, ev⟩ : ∃ v, v = w.st[i] := ⟨_, rfl⟩
              rw [← en] at hn hok hS
              rw [← ev] at hv hok hS
              have hb : (List.map V.bool S0).getD i V.any = .bool (stv n v) := by rw [getB hlt, hS]
              have hi1 : (List.map vi m.g.init).getD i V.any = vi n := by rw [getI l1, en]
              have hi2 : (List.map vi w.st).getD i V.any = vi v := by rw [getI l2, ev]
              have hn3 : n = 0 ∨ n = 1 ∨ n = 2 := by omega
              have hv3 : v = 0 ∨ v = 1 ∨ v = 2 := by omega
              clear en ev hn hv
              rcases hn3 with rfl | rfl | rfl <;> rcases hv3 with rfl | rfl | rfl
              all_goals first
                | exact absurd hok (by decide)
                | skip
              all_goals
                simp only [sz.down, ↓reduceIte, Nat.reduceEqDiff, Nat.reduceLT, Nat.reduceLeDiff, Nat.reduceAdd, Int.reduceLT, Int.reduceBEq, reduceCtorEq, TEP, tis, h2, h3, h7, h12, hb, hi1, hi2, hw, s00, s02, s11, s12, s20, s21, s22v]
              all_goals
                refine ⟨⟨by omega, by omega⟩, by decide +kernel, ?_⟩
                repeat refine ⟨⟨by omega, by omega⟩, ?_⟩
                exact .inl ⟨k - 1, by omega, i + 1, by omega, by simp only [sz.down, ↓reduceIte, Nat.reduceEqDiff, h2], by simp only [sz.down, ↓reduceIte, Nat.reduceEqDiff, h3], by simp only [sz.down, ↓reduceIte, Nat.reduceEqDiff, h5], by simp only [sz.down, ↓reduceIte, Nat.reduceEqDiff, h7], by simp only [sz.down, ↓reduceIte, Nat.reduceEqDiff, h8], by simp only [sz.down, ↓reduceIte, Nat.reduceEqDiff, h10], by simp only [sz.down, ↓reduceIte], by simp only [sz.down, hd], rfl⟩
            · simp only [decide_eq_false_iff_not, Int.ofNat_lt] at hlt
              simp only [sz.down, ↓reduceIte, Nat.reduceEqDiff, h2, h3, h5, h7, h8, h10, hd]
        · refine vc_ok mixed _ _ _ _ ?_
          simp only [sz.down, ↓reduceIte, Nat.reduceEqDiff, Nat.reduceLT, TEP, h2, h3, h5, hd]
    · have hz : (Wi.fits m w == 0) = false := by simpa using hc
      have hz1 : (Wi.fits m w != 0) = true := by simpa using hc
      have hz2 : (Wi.fits m w == Wi.fits m w) = true := by simp
      have hz3 : (Wi.fits m w != Wi.fits m w) = false := by simp
      rw [if_neg hc] at hst hrp ⊢
      simp only [sz.down, ↓reduceIte, Nat.reduceEqDiff, Nat.reduceLT, Nat.reduceAdd, TEP]
      refine awp_seq (vc_ok mixed _ _ _ _ ?_)
      simp only [sz.down, ↓reduceIte, Nat.reduceEqDiff, Nat.reduceLT, Nat.reduceAdd, reduceCtorEq, TEP, tis, ens, h2, h3]
      refine ACalls.ev hrp rfl ?_
      simp only [sz.down, ↓reduceIte, Nat.reduceEqDiff, Nat.reduceLT, Nat.reduceAdd, TEP]
      cases few with
      | false =>
        refine awp_seq (vc_ok mixed _ _ _ _ ?_)
        simp only [sz.down, ↓reduceIte, Nat.reduceEqDiff, Nat.reduceLT, reduceCtorEq, TEP, h5, h6, hd, hz1, hz3]
        exact Reif.dat rfl
      | true =>
        refine awp_seq (vc_ok mixed _ _ _ _ ?_)
        simp only [sz.down, ↓reduceIte, Nat.reduceEqDiff, Nat.reduceLT, reduceCtorEq, TEP, h5, h6, hd, hz1, hz3]
        exact Reif.dat rfl
  · refine vc_ok mixed _ _ _ _ ?_
    simp only [sz.down, ↓reduceIte, Nat.reduceEqDiff, Nat.reduceLT, Nat.reduceAdd, reduceCtorEq, TEP, tis, ens]
    refine ACalls.ev hf1 rfl ?_
    rw [hfew]
    cases m.few with
    | false =>
      simp only [sz.down, ↓reduceIte, Nat.reduceEqDiff, Nat.reduceLT, Nat.reduceAdd, reduceCtorEq, TEP, tis]
      refine ⟨.bool true, ?_⟩
      simp only [sz.down]
    | true =>
      simp only [sz.down, ↓reduceIte, Nat.reduceEqDiff, Nat.reduceLT, Nat.reduceAdd, reduceCtorEq, TEP, tis, ens]
      refine ACalls.ev hf2 rfl ?_
      cases w.few <;> (simp only [sz.down, ↓reduceIte, Nat.reduceEqDiff, Nat.reduceLT, reduceCtorEq, TEP])

end Go.Proofs.YtboolnpmlmgpkaaGreatDoor
