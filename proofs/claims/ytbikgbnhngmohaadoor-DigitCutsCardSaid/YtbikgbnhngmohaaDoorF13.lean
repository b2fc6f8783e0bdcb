/- Functions of the program, part 13. -/
import Derived.Test.YtbikgbnhngmohaaDoorF12
set_option linter.unusedVariables false
set_option linter.unusedSimpArgs false
set_option linter.unnecessarySimpa false
namespace Go.Proofs.YtbikgbnhngmohaaDoor
open Go Go.Proofs Go.Abs Go.RowKit

theorem fits_of {n : Int} (h : fitsB n = true) : ∃ m : Nat, n = m ∧ m ≤ 2147483647 := by
  have : 0 ≤ n ∧ n ≤ 2147483647 := by simpa [fitsB] using h
  exact ⟨n.toNat, by omega, by omega⟩
theorem putV_ok {m : Nat} (h : m ≤ 2147483647) : putV m = (Lib.decDigits m, 0) := by
  unfold putV
  rw [if_pos (by simp [fitsB]; omega), itoa_nat]
theorem deltaV_ok {m : Nat} (h : m ≤ 2147483647) : deltaV m = (grp m, 0) := by
  unfold deltaV
  rw [if_pos (by simp [fitsB]; omega), Int.toNat_natCast]
theorem putV_no {n : Int} (h : fitsB n = false) : putV n = ([], 3) := by unfold putV; rw [h]; rfl
theorem deltaV_no {n : Int} (h : fitsB n = false) : deltaV n = ([], 3) := by unfold deltaV; rw [h]; rfl

set_option maxRecDepth 100000 in
set_option maxHeartbeats 4000000 in
theorem ev_back (n : Int) (x t : By) : Ev TE 5 [vi n, .str x, .str t] (.bool true) := by
  refine Ev.of_awp Tryd.func5 rfl (by simp [nts]) (vc_ok mixed _ _ _ _ ?_)
  simp only [sa0.down, sa1.down, sa2.down, sa3.down, sa4.down, sb0.down, sb1.down, sb2.down, sb3.down, ↓reduceIte, Nat.reduceEqDiff, Nat.reduceLT, Nat.reduceLeDiff, Nat.reduceAdd, Nat.reduceSub, Int.reduceToNat, Nat.reduceDiv, Int.reduceLT, Int.reduceLE, Int.reduceNeg, Int.reduceBEq, Int.reduceBNe, Int.reduceAdd, Int.reduceSub, Nat.reduceBEq, reduceCtorEq, Nat.reduceMul, TEP, pvNilI, tis, ens, nts, Tryd.results5]
  refine ACalls.ev ev_works rfl ?_
  simp only [sa0.down, sa1.down, sa2.down, sa3.down, sa4.down, sb0.down, sb1.down, sb2.down, sb3.down, ↓reduceIte, Nat.reduceEqDiff, Nat.reduceLT, Nat.reduceLeDiff, Nat.reduceAdd, Nat.reduceSub, Int.reduceToNat, Nat.reduceDiv, Int.reduceLT, Int.reduceLE, Int.reduceNeg, Int.reduceBEq, Int.reduceBNe, Int.reduceAdd, Int.reduceSub, Nat.reduceBEq, reduceCtorEq, Nat.reduceMul, TEP, pvNilI, tis, ens, nts, Tryd.results5]
  refine vcB.mk (fun hc => ?_) (fun hc => ?_)
  · simp only [sa0.down, sa1.down, sa2.down, sa3.down, sa4.down, sb0.down, sb1.down, sb2.down, sb3.down, ↓reduceIte, Nat.reduceEqDiff, Nat.reduceLT, Nat.reduceLeDiff, Nat.reduceAdd, Nat.reduceSub, Int.reduceToNat, Nat.reduceDiv, Int.reduceLT, Int.reduceLE, Int.reduceNeg, Int.reduceBEq, Int.reduceBNe, Int.reduceAdd, Int.reduceSub, Nat.reduceBEq, reduceCtorEq, Nat.reduceMul, TEP, pvNilI, tis, ens, nts, Tryd.results5]
    exact Reif.dat rfl
  · simp only [Bool.or_eq_false_iff, decide_eq_false_iff_not] at hc
    have hx : x.length ≤ 100 := by omega
    have ht : t.length ≤ 100 := by omega
    have hM : maxLen = 9223372036854775807 := rfl
    simp only [sa0.down, sa1.down, sa2.down, sa3.down, sa4.down, sb0.down, sb1.down, sb2.down, sb3.down, ↓reduceIte, Nat.reduceEqDiff, Nat.reduceLT, Nat.reduceLeDiff, Nat.reduceAdd, Nat.reduceSub, Int.reduceToNat, Nat.reduceDiv, Int.reduceLT, Int.reduceLE, Int.reduceNeg, Int.reduceBEq, Int.reduceBNe, Int.reduceAdd, Int.reduceSub, Nat.reduceBEq, reduceCtorEq, Nat.reduceMul, TEP, pvNilI, tis, ens, nts, Tryd.results5]
    refine ACalls.ev (ev_put n) rfl ?_
    simp only [sa0.down, sa1.down, sa2.down, sa3.down, sa4.down, sb0.down, sb1.down, sb2.down, sb3.down, ↓reduceIte, Nat.reduceEqDiff, Nat.reduceLT, Nat.reduceLeDiff, Nat.reduceAdd, Nat.reduceSub, Int.reduceToNat, Nat.reduceDiv, Int.reduceLT, Int.reduceLE, Int.reduceNeg, Int.reduceBEq, Int.reduceBNe, Int.reduceAdd, Int.reduceSub, Nat.reduceBEq, reduceCtorEq, Nat.reduceMul, TEP, pvNilI, tis, ens, nts, Tryd.results5]
    refine ACalls.ev (ev_Delta n) rfl ?_
    cases hf : fitsB n with
    | false =>
      rw [putV_no hf, deltaV_no hf]
      simp only [sa0.down, sa1.down, sa2.down, sa3.down, sa4.down, sb0.down, sb1.down, sb2.down, sb3.down, ↓reduceIte, Nat.reduceEqDiff, Nat.reduceLT, Nat.reduceLeDiff, Nat.reduceAdd, Nat.reduceSub, Int.reduceToNat, Nat.reduceDiv, Int.reduceLT, Int.reduceLE, Int.reduceNeg, Int.reduceBEq, Int.reduceBNe, Int.reduceAdd, Int.reduceSub, Nat.reduceBEq, reduceCtorEq, Nat.reduceMul, TEP, pvNilI, tis, ens, nts, Tryd.results5]
      exact Reif.dat rfl
    | true =>
      obtain ⟨m, rfl, hm⟩ := fits_of hf
      rw [putV_ok hm, deltaV_ok hm]
      have hg := grp_len 4 m (by omega)
      have hd := dec_len (k := 9) (show m < 10 ^ 10 by omega)
      simp only [sa0.down, sa1.down, sa2.down, sa3.down, sa4.down, sb0.down, sb1.down, sb2.down, sb3.down, ↓reduceIte, Nat.reduceEqDiff, Nat.reduceLT, Nat.reduceLeDiff, Nat.reduceAdd, Nat.reduceSub, Int.reduceToNat, Nat.reduceDiv, Int.reduceLT, Int.reduceLE, Int.reduceNeg, Int.reduceBEq, Int.reduceBNe, Int.reduceAdd, Int.reduceSub, Nat.reduceBEq, reduceCtorEq, Nat.reduceMul, TEP, pvNilI, tis, ens, nts, Tryd.results5]
      refine ⟨by omega, by omega, ACalls.ev (ev_Undelta _ _ (by simp only [List.length_append]; omega)) rfl ?_⟩
      rw [und_back hm]
      simp only [sa0.down, sa1.down, sa2.down, sa3.down, sa4.down, sb0.down, sb1.down, sb2.down, sb3.down, ↓reduceIte, Nat.reduceEqDiff, Nat.reduceLT, Nat.reduceLeDiff, Nat.reduceAdd, Nat.reduceSub, Int.reduceToNat, Nat.reduceDiv, Int.reduceLT, Int.reduceLE, Int.reduceNeg, Int.reduceBEq, Int.reduceBNe, Int.reduceAdd, Int.reduceSub, Nat.reduceBEq, reduceCtorEq, Nat.reduceMul, TEP, pvNilI, tis, ens, nts, Tryd.results5, wrapn (show -9223372036854775808 ≤ ((x.length : Int) + (grp m).length) by omega) (by omega), Int.natCast_add, bne_self_eq_false]
      cases t with
      | nil =>
        simp only [sa0.down, sa1.down, sa2.down, sa3.down, sa4.down, sb0.down, sb1.down, sb2.down, sb3.down, ↓reduceIte, Nat.reduceEqDiff, Nat.reduceLT, Nat.reduceLeDiff, Nat.reduceAdd, Nat.reduceSub, Int.reduceToNat, Nat.reduceDiv, Int.reduceLT, Int.reduceLE, Int.reduceNeg, Int.reduceBEq, Int.reduceBNe, Int.reduceAdd, Int.reduceSub, Nat.reduceBEq, reduceCtorEq, Nat.reduceMul, TEP, pvNilI, tis, ens, nts, Tryd.results5, bne_self_eq_false]
        refine ⟨.bool true, ?_⟩
        simp only [sa0.down, sa1.down, sa2.down, sa3.down, sa4.down, sb0.down, sb1.down, sb2.down, sb3.down, ↓reduceIte, Nat.reduceEqDiff, Nat.reduceLT, Nat.reduceLeDiff, Nat.reduceAdd, Nat.reduceSub, Int.reduceToNat, Nat.reduceDiv, Int.reduceLT, Int.reduceLE, Int.reduceNeg, Int.reduceBEq, Int.reduceBNe, Int.reduceAdd, Int.reduceSub, Nat.reduceBEq, reduceCtorEq, Nat.reduceMul, TEP, pvNilI, tis, ens, nts, Tryd.results5]
        refine ⟨by omega, by omega, ACalls.ev (ev_Get _ _ (by simp only [List.length_append, List.length_nil]; omega)) rfl ?_⟩
        have hgb := get_back hm x [] (by rintro c r h; cases h)
        rw [List.append_nil] at hgb
        rw [hgb]
        simp only [sa0.down, sa1.down, sa2.down, sa3.down, sa4.down, sb0.down, sb1.down, sb2.down, sb3.down, ↓reduceIte, Nat.reduceEqDiff, Nat.reduceLT, Nat.reduceLeDiff, Nat.reduceAdd, Nat.reduceSub, Int.reduceToNat, Nat.reduceDiv, Int.reduceLT, Int.reduceLE, Int.reduceNeg, Int.reduceBEq, Int.reduceBNe, Int.reduceAdd, Int.reduceSub, Nat.reduceBEq, reduceCtorEq, Nat.reduceMul, TEP, pvNilI, tis, ens, nts, Tryd.results5, wrapn (show -9223372036854775808 ≤ ((x.length : Int) + (Lib.decDigits m).length) by omega) (by omega), Int.natCast_add, beq_self_eq_true]
        exact Reif.dat rfl
      | cons c r =>
        have hne : ((c :: r : By) == []) = false := rfl
        have ht' : r.length + 1 ≤ 100 := ht
        simp only [sa0.down, sa1.down, sa2.down, sa3.down, sa4.down, sb0.down, sb1.down, sb2.down, sb3.down, ↓reduceIte, Nat.reduceEqDiff, Nat.reduceLT, Nat.reduceLeDiff, Nat.reduceAdd, Nat.reduceSub, Int.reduceToNat, Nat.reduceDiv, Int.reduceLT, Int.reduceLE, Int.reduceNeg, Int.reduceBEq, Int.reduceBNe, Int.reduceAdd, Int.reduceSub, Nat.reduceBEq, reduceCtorEq, Nat.reduceMul, TEP, pvNilI, tis, ens, nts, Tryd.results5, hne]
        refine ⟨by omega, ACalls.ev (ev_digit c) rfl ?_⟩
        cases hcd : isDig c with
        | true =>
          simp only [sa0.down, sa1.down, sa2.down, sa3.down, sa4.down, sb0.down, sb1.down, sb2.down, sb3.down, ↓reduceIte, Nat.reduceEqDiff, Nat.reduceLT, Nat.reduceLeDiff, Nat.reduceAdd, Nat.reduceSub, Int.reduceToNat, Nat.reduceDiv, Int.reduceLT, Int.reduceLE, Int.reduceNeg, Int.reduceBEq, Int.reduceBNe, Int.reduceAdd, Int.reduceSub, Nat.reduceBEq, reduceCtorEq, Nat.reduceMul, TEP, pvNilI, tis, ens, nts, Tryd.results5]
          exact Reif.dat rfl
        | false =>
          simp only [sa0.down, sa1.down, sa2.down, sa3.down, sa4.down, sb0.down, sb1.down, sb2.down, sb3.down, ↓reduceIte, Nat.reduceEqDiff, Nat.reduceLT, Nat.reduceLeDiff, Nat.reduceAdd, Nat.reduceSub, Int.reduceToNat, Nat.reduceDiv, Int.reduceLT, Int.reduceLE, Int.reduceNeg, Int.reduceBEq, Int.reduceBNe, Int.reduceAdd, Int.reduceSub, Nat.reduceBEq, reduceCtorEq, Nat.reduceMul, TEP, pvNilI, tis, ens, nts, Tryd.results5]
          refine ⟨by omega, by omega, ACalls.ev (ev_Get _ _ (by simp only [List.length_append, List.length_cons]; omega)) rfl ?_⟩
          rw [get_back hm _ _ (by rintro c r h; cases h; exact hcd)]
          simp only [sa0.down, sa1.down, sa2.down, sa3.down, sa4.down, sb0.down, sb1.down, sb2.down, sb3.down, ↓reduceIte, Nat.reduceEqDiff, Nat.reduceLT, Nat.reduceLeDiff, Nat.reduceAdd, Nat.reduceSub, Int.reduceToNat, Nat.reduceDiv, Int.reduceLT, Int.reduceLE, Int.reduceNeg, Int.reduceBEq, Int.reduceBNe, Int.reduceAdd, Int.reduceSub, Nat.reduceBEq, reduceCtorEq, Nat.reduceMul, TEP, pvNilI, tis, ens, nts, Tryd.results5, wrapn (show -9223372036854775808 ≤ ((x.length : Int) + (Lib.decDigits m).length) by omega) (by omega), Int.natCast_add, beq_self_eq_true]
          exact Reif.dat rfl

set_option maxRecDepth 100000 in
set_option maxHeartbeats 4000000 in
theorem ev_only (s : By) (a : Int) : Ev TE 6 [.str s, vi a] (.bool true) := by
  refine Ev.of_awp Tryd.func6 rfl (by simp [nts]) (vc_ok mixed _ _ _ _ ?_)
  simp only [sa0.down, sa1.down, sa2.down, sa3.down, sa4.down, sb0.down, sb1.down, sb2.down, sb3.down, ↓reduceIte, Nat.reduceEqDiff, Nat.reduceLT, Nat.reduceLeDiff, Nat.reduceAdd, Nat.reduceSub, Int.reduceToNat, Nat.reduceDiv, Int.reduceLT, Int.reduceLE, Int.reduceNeg, Int.reduceBEq, Int.reduceBNe, Int.reduceAdd, Int.reduceSub, Nat.reduceBEq, reduceCtorEq, Nat.reduceMul, TEP, pvNilI, tis, ens, nts, Tryd.results6]
  refine ACalls.ev ev_works rfl ?_
  simp only [sa0.down, sa1.down, sa2.down, sa3.down, sa4.down, sb0.down, sb1.down, sb2.down, sb3.down, ↓reduceIte, Nat.reduceEqDiff, Nat.reduceLT, Nat.reduceLeDiff, Nat.reduceAdd, Nat.reduceSub, Int.reduceToNat, Nat.reduceDiv, Int.reduceLT, Int.reduceLE, Int.reduceNeg, Int.reduceBEq, Int.reduceBNe, Int.reduceAdd, Int.reduceSub, Nat.reduceBEq, reduceCtorEq, Nat.reduceMul, TEP, pvNilI, tis, ens, nts, Tryd.results6]
  refine vcB.mk (fun hc => ?_) (fun hc => ?_)
  · simp only [sa0.down, sa1.down, sa2.down, sa3.down, sa4.down, sb0.down, sb1.down, sb2.down, sb3.down, ↓reduceIte, Nat.reduceEqDiff, Nat.reduceLT, Nat.reduceLeDiff, Nat.reduceAdd, Nat.reduceSub, Int.reduceToNat, Nat.reduceDiv, Int.reduceLT, Int.reduceLE, Int.reduceNeg, Int.reduceBEq, Int.reduceBNe, Int.reduceAdd, Int.reduceSub, Nat.reduceBEq, reduceCtorEq, Nat.reduceMul, TEP, pvNilI, tis, ens, nts, Tryd.results6]
    exact Reif.dat rfl
  · simp only [Bool.or_eq_false_iff, decide_eq_false_iff_not] at hc
    have hx : s.length ≤ 100 := by omega
    have hM : maxLen = 9223372036854775807 := rfl
    simp only [sa0.down, sa1.down, sa2.down, sa3.down, sa4.down, sb0.down, sb1.down, sb2.down, sb3.down, ↓reduceIte, Nat.reduceEqDiff, Nat.reduceLT, Nat.reduceLeDiff, Nat.reduceAdd, Nat.reduceSub, Int.reduceToNat, Nat.reduceDiv, Int.reduceLT, Int.reduceLE, Int.reduceNeg, Int.reduceBEq, Int.reduceBNe, Int.reduceAdd, Int.reduceSub, Nat.reduceBEq, reduceCtorEq, Nat.reduceMul, TEP, pvNilI, tis, ens, nts, Tryd.results6]
    refine ACalls.ev (ev_Get s a (by omega)) rfl ?_
    rcases get_only s a with h | ⟨p, ds, rfl, h2, h3, h4, h5⟩
    · rw [h]
      simp only [sa0.down, sa1.down, sa2.down, sa3.down, sa4.down, sb0.down, sb1.down, sb2.down, sb3.down, ↓reduceIte, Nat.reduceEqDiff, Nat.reduceLT, Nat.reduceLeDiff, Nat.reduceAdd, Nat.reduceSub, Int.reduceToNat, Nat.reduceDiv, Int.reduceLT, Int.reduceLE, Int.reduceNeg, Int.reduceBEq, Int.reduceBNe, Int.reduceAdd, Int.reduceSub, Nat.reduceBEq, reduceCtorEq, Nat.reduceMul, TEP, pvNilI, tis, ens, nts, Tryd.results6]
      refine ACalls.ev (ev_Undelta s a (by omega)) rfl ?_
      rcases und_only s a with ⟨e, he, k⟩ | ⟨q, gs, rfl, k2, k3, k4, k5⟩
      · have he2 : (e != 0) = true := bne_iff_ne.2 he
        rw [k]
        simp only [sa0.down, sa1.down, sa2.down, sa3.down, sa4.down, sb0.down, sb1.down, sb2.down, sb3.down, ↓reduceIte, Nat.reduceEqDiff, Nat.reduceLT, Nat.reduceLeDiff, Nat.reduceAdd, Nat.reduceSub, Int.reduceToNat, Nat.reduceDiv, Int.reduceLT, Int.reduceLE, Int.reduceNeg, Int.reduceBEq, Int.reduceBNe, Int.reduceAdd, Int.reduceSub, Nat.reduceBEq, reduceCtorEq, Nat.reduceMul, TEP, pvNilI, tis, ens, nts, Tryd.results6, he2, beq_self_eq_true]
        exact Reif.dat rfl
      · rw [k5]
        simp only [sa0.down, sa1.down, sa2.down, sa3.down, sa4.down, sb0.down, sb1.down, sb2.down, sb3.down, ↓reduceIte, Nat.reduceEqDiff, Nat.reduceLT, Nat.reduceLeDiff, Nat.reduceAdd, Nat.reduceSub, Int.reduceToNat, Nat.reduceDiv, Int.reduceLT, Int.reduceLE, Int.reduceNeg, Int.reduceBEq, Int.reduceBNe, Int.reduceAdd, Int.reduceSub, Nat.reduceBEq, reduceCtorEq, Nat.reduceMul, TEP, pvNilI, tis, ens, nts, Tryd.results6]
        refine ACalls.ev (ev_Delta _) rfl ?_
        rw [deltaV_ok k4.1, k4.2]
        have hsl : List.take (q + gs.length - q) (List.drop q s) = gs := by rw [show q + gs.length - q = gs.length by omega, k3]
        have hq1 : decide ((0 : Int) ≤ (q : Int)) = true := by rw [decide_eq_true_eq]; omega
        have hq2 : decide (((q + gs.length : Nat) : Int) ≤ (s.length : Int)) = true := by rw [decide_eq_true_eq]; omega
        have hq3 : decide ((q : Int) ≤ ((q + gs.length : Nat) : Int)) = true := by rw [decide_eq_true_eq]; omega
        simp only [sa0.down, sa1.down, sa2.down, sa3.down, sa4.down, sb0.down, sb1.down, sb2.down, sb3.down, ↓reduceIte, Nat.reduceEqDiff, Nat.reduceLT, Nat.reduceLeDiff, Nat.reduceAdd, Nat.reduceSub, Int.reduceToNat, Nat.reduceDiv, Int.reduceLT, Int.reduceLE, Int.reduceNeg, Int.reduceBEq, Int.reduceBNe, Int.reduceAdd, Int.reduceSub, Nat.reduceBEq, reduceCtorEq, Nat.reduceMul, TEP, pvNilI, tis, ens, nts, Tryd.results6, hq1, hq2, hq3, hsl, beq_self_eq_true]
        exact ⟨by omega, Reif.dat rfl⟩
    · have hsl : List.take (p + ds.length - p) (List.drop p s) = ds := by rw [show p + ds.length - p = ds.length by omega, h3]
      have hq1 : decide ((p : Int) < 0) = false := by rw [decide_eq_false_iff_not]; omega
      have hq2 : decide ((s.length : Int) < ((p + ds.length : Nat) : Int)) = false := by rw [decide_eq_false_iff_not]; omega
      have hq3 : decide (((p + ds.length : Nat) : Int) < (p : Int)) = false := by rw [decide_eq_false_iff_not]; omega
      rw [h5]
      simp only [sa0.down, sa1.down, sa2.down, sa3.down, sa4.down, sb0.down, sb1.down, sb2.down, sb3.down, ↓reduceIte, Nat.reduceEqDiff, Nat.reduceLT, Nat.reduceLeDiff, Nat.reduceAdd, Nat.reduceSub, Int.reduceToNat, Nat.reduceDiv, Int.reduceLT, Int.reduceLE, Int.reduceNeg, Int.reduceBEq, Int.reduceBNe, Int.reduceAdd, Int.reduceSub, Nat.reduceBEq, reduceCtorEq, Nat.reduceMul, TEP, pvNilI, tis, ens, nts, Tryd.results6]
      refine ACalls.ev (ev_put _) rfl ?_
      rw [putV_ok h4.1, h4.2]
      simp only [sa0.down, sa1.down, sa2.down, sa3.down, sa4.down, sb0.down, sb1.down, sb2.down, sb3.down, ↓reduceIte, Nat.reduceEqDiff, Nat.reduceLT, Nat.reduceLeDiff, Nat.reduceAdd, Nat.reduceSub, Int.reduceToNat, Nat.reduceDiv, Int.reduceLT, Int.reduceLE, Int.reduceNeg, Int.reduceBEq, Int.reduceBNe, Int.reduceAdd, Int.reduceSub, Nat.reduceBEq, reduceCtorEq, Nat.reduceMul, TEP, pvNilI, tis, ens, nts, Tryd.results6, hq1, hq2, hq3, hsl, bne_self_eq_false, beq_self_eq_true]
      refine ⟨by omega, ?_⟩
      refine ACalls.ev (ev_Undelta s p (by omega)) rfl ?_
      rcases und_only s p with ⟨e, he, k⟩ | ⟨q, gs, hqp, k2, k3, k4, k5⟩
      · have he2 : (e != 0) = true := bne_iff_ne.2 he
        rw [k]
        simp only [sa0.down, sa1.down, sa2.down, sa3.down, sa4.down, sb0.down, sb1.down, sb2.down, sb3.down, ↓reduceIte, Nat.reduceEqDiff, Nat.reduceLT, Nat.reduceLeDiff, Nat.reduceAdd, Nat.reduceSub, Int.reduceToNat, Nat.reduceDiv, Int.reduceLT, Int.reduceLE, Int.reduceNeg, Int.reduceBEq, Int.reduceBNe, Int.reduceAdd, Int.reduceSub, Nat.reduceBEq, reduceCtorEq, Nat.reduceMul, TEP, pvNilI, tis, ens, nts, Tryd.results6, he2, beq_self_eq_true]
        exact Reif.dat rfl
      · obtain rfl : q = p := by omega
        rw [k5]
        simp only [sa0.down, sa1.down, sa2.down, sa3.down, sa4.down, sb0.down, sb1.down, sb2.down, sb3.down, ↓reduceIte, Nat.reduceEqDiff, Nat.reduceLT, Nat.reduceLeDiff, Nat.reduceAdd, Nat.reduceSub, Int.reduceToNat, Nat.reduceDiv, Int.reduceLT, Int.reduceLE, Int.reduceNeg, Int.reduceBEq, Int.reduceBNe, Int.reduceAdd, Int.reduceSub, Nat.reduceBEq, reduceCtorEq, Nat.reduceMul, TEP, pvNilI, tis, ens, nts, Tryd.results6]
        refine ACalls.ev (ev_Delta _) rfl ?_
        rw [deltaV_ok k4.1, k4.2]
        have hsl2 : List.take (q + gs.length - q) (List.drop q s) = gs := by rw [show q + gs.length - q = gs.length by omega, k3]
        have hr1 : decide ((0 : Int) ≤ (q : Int)) = true := by rw [decide_eq_true_eq]; omega
        have hr2 : decide (((q + gs.length : Nat) : Int) ≤ (s.length : Int)) = true := by rw [decide_eq_true_eq]; omega
        have hr3 : decide ((q : Int) ≤ ((q + gs.length : Nat) : Int)) = true := by rw [decide_eq_true_eq]; omega
        simp only [sa0.down, sa1.down, sa2.down, sa3.down, sa4.down, sb0.down, sb1.down, sb2.down, sb3.down, ↓reduceIte, Nat.reduceEqDiff, Nat.reduceLT, Nat.reduceLeDiff, Nat.reduceAdd, Nat.reduceSub, Int.reduceToNat, Nat.reduceDiv, Int.reduceLT, Int.reduceLE, Int.reduceNeg, Int.reduceBEq, Int.reduceBNe, Int.reduceAdd, Int.reduceSub, Nat.reduceBEq, reduceCtorEq, Nat.reduceMul, TEP, pvNilI, tis, ens, nts, Tryd.results6, hr1, hr2, hr3, hsl2, beq_self_eq_true]
        exact ⟨by omega, Reif.dat rfl⟩

set_option maxRecDepth 100000 in
set_option maxHeartbeats 4000000 in
theorem ev_order (a b : Int) : Ev TE 7 [vi a, vi b] (.bool true) := by
  refine Ev.of_awp Tryd.func7 rfl (by simp [nts]) (vc_ok mixed _ _ _ _ ?_)
  simp only [sa0.down, sa1.down, sa2.down, sa3.down, sa4.down, sb0.down, sb1.down, sb2.down, sb3.down, ↓reduceIte, Nat.reduceEqDiff, Nat.reduceLT, Nat.reduceLeDiff, Nat.reduceAdd, Nat.reduceSub, Int.reduceToNat, Nat.reduceDiv, Int.reduceLT, Int.reduceLE, Int.reduceNeg, Int.reduceBEq, Int.reduceBNe, Int.reduceAdd, Int.reduceSub, Nat.reduceBEq, reduceCtorEq, Nat.reduceMul, TEP, pvNilI, tis, ens, nts, Tryd.results7]
  refine ACalls.ev ev_works rfl ?_
  simp only [sa0.down, sa1.down, sa2.down, sa3.down, sa4.down, sb0.down, sb1.down, sb2.down, sb3.down, ↓reduceIte, Nat.reduceEqDiff, Nat.reduceLT, Nat.reduceLeDiff, Nat.reduceAdd, Nat.reduceSub, Int.reduceToNat, Nat.reduceDiv, Int.reduceLT, Int.reduceLE, Int.reduceNeg, Int.reduceBEq, Int.reduceBNe, Int.reduceAdd, Int.reduceSub, Nat.reduceBEq, reduceCtorEq, Nat.reduceMul, TEP, pvNilI, tis, ens, nts, Tryd.results7]
  refine ACalls.ev (ev_put a) rfl ?_
  simp only [sa0.down, sa1.down, sa2.down, sa3.down, sa4.down, sb0.down, sb1.down, sb2.down, sb3.down, ↓reduceIte, Nat.reduceEqDiff, Nat.reduceLT, Nat.reduceLeDiff, Nat.reduceAdd, Nat.reduceSub, Int.reduceToNat, Nat.reduceDiv, Int.reduceLT, Int.reduceLE, Int.reduceNeg, Int.reduceBEq, Int.reduceBNe, Int.reduceAdd, Int.reduceSub, Nat.reduceBEq, reduceCtorEq, Nat.reduceMul, TEP, pvNilI, tis, ens, nts, Tryd.results7]
  refine ACalls.ev (ev_put b) rfl ?_
  simp only [sa0.down, sa1.down, sa2.down, sa3.down, sa4.down, sb0.down, sb1.down, sb2.down, sb3.down, ↓reduceIte, Nat.reduceEqDiff, Nat.reduceLT, Nat.reduceLeDiff, Nat.reduceAdd, Nat.reduceSub, Int.reduceToNat, Nat.reduceDiv, Int.reduceLT, Int.reduceLE, Int.reduceNeg, Int.reduceBEq, Int.reduceBNe, Int.reduceAdd, Int.reduceSub, Nat.reduceBEq, reduceCtorEq, Nat.reduceMul, TEP, pvNilI, tis, ens, nts, Tryd.results7]
  refine ACalls.ev (ev_Delta a) rfl ?_
  simp only [sa0.down, sa1.down, sa2.down, sa3.down, sa4.down, sb0.down, sb1.down, sb2.down, sb3.down, ↓reduceIte, Nat.reduceEqDiff, Nat.reduceLT, Nat.reduceLeDiff, Nat.reduceAdd, Nat.reduceSub, Int.reduceToNat, Nat.reduceDiv, Int.reduceLT, Int.reduceLE, Int.reduceNeg, Int.reduceBEq, Int.reduceBNe, Int.reduceAdd, Int.reduceSub, Nat.reduceBEq, reduceCtorEq, Nat.reduceMul, TEP, pvNilI, tis, ens, nts, Tryd.results7]
  refine ACalls.ev (ev_Delta b) rfl ?_
  cases hf : fitsB a with
  | false =>
    rw [putV_no hf, deltaV_no hf]
    cases hg : fitsB b with
    | false =>
      rw [putV_no hg, deltaV_no hg]
      simp only [sa0.down, sa1.down, sa2.down, sa3.down, sa4.down, sb0.down, sb1.down, sb2.down, sb3.down, ↓reduceIte, Nat.reduceEqDiff, Nat.reduceLT, Nat.reduceLeDiff, Nat.reduceAdd, Nat.reduceSub, Int.reduceToNat, Nat.reduceDiv, Int.reduceLT, Int.reduceLE, Int.reduceNeg, Int.reduceBEq, Int.reduceBNe, Int.reduceAdd, Int.reduceSub, Nat.reduceBEq, reduceCtorEq, Nat.reduceMul, TEP, pvNilI, tis, ens, nts, Tryd.results7]
      exact Reif.dat rfl
    | true =>
      obtain ⟨m, rfl, hm⟩ := fits_of hg
      rw [putV_ok hm, deltaV_ok hm]
      simp only [sa0.down, sa1.down, sa2.down, sa3.down, sa4.down, sb0.down, sb1.down, sb2.down, sb3.down, ↓reduceIte, Nat.reduceEqDiff, Nat.reduceLT, Nat.reduceLeDiff, Nat.reduceAdd, Nat.reduceSub, Int.reduceToNat, Nat.reduceDiv, Int.reduceLT, Int.reduceLE, Int.reduceNeg, Int.reduceBEq, Int.reduceBNe, Int.reduceAdd, Int.reduceSub, Nat.reduceBEq, reduceCtorEq, Nat.reduceMul, TEP, pvNilI, tis, ens, nts, Tryd.results7]
      exact Reif.dat rfl
  | true =>
    obtain ⟨l, rfl, hl⟩ := fits_of hf
    rw [putV_ok hl, deltaV_ok hl]
    cases hg : fitsB b with
    | false =>
      rw [putV_no hg, deltaV_no hg]
      simp only [sa0.down, sa1.down, sa2.down, sa3.down, sa4.down, sb0.down, sb1.down, sb2.down, sb3.down, ↓reduceIte, Nat.reduceEqDiff, Nat.reduceLT, Nat.reduceLeDiff, Nat.reduceAdd, Nat.reduceSub, Int.reduceToNat, Nat.reduceDiv, Int.reduceLT, Int.reduceLE, Int.reduceNeg, Int.reduceBEq, Int.reduceBNe, Int.reduceAdd, Int.reduceSub, Nat.reduceBEq, reduceCtorEq, Nat.reduceMul, TEP, pvNilI, tis, ens, nts, Tryd.results7]
      exact Reif.dat rfl
    | true =>
      obtain ⟨m, rfl, hm⟩ := fits_of hg
      rw [putV_ok hm, deltaV_ok hm]
      simp only [sa0.down, sa1.down, sa2.down, sa3.down, sa4.down, sb0.down, sb1.down, sb2.down, sb3.down, ↓reduceIte, Nat.reduceEqDiff, Nat.reduceLT, Nat.reduceLeDiff, Nat.reduceAdd, Nat.reduceSub, Int.reduceToNat, Nat.reduceDiv, Int.reduceLT, Int.reduceLE, Int.reduceNeg, Int.reduceBEq, Int.reduceBNe, Int.reduceAdd, Int.reduceSub, Nat.reduceBEq, reduceCtorEq, Nat.reduceMul, TEP, pvNilI, tis, ens, nts, Tryd.results7]
      refine vcB.mk (fun hc => ?_) (fun hc => ?_)
      · simp only [sa0.down, sa1.down, sa2.down, sa3.down, sa4.down, sb0.down, sb1.down, sb2.down, sb3.down, ↓reduceIte, Nat.reduceEqDiff, Nat.reduceLT, Nat.reduceLeDiff, Nat.reduceAdd, Nat.reduceSub, Int.reduceToNat, Nat.reduceDiv, Int.reduceLT, Int.reduceLE, Int.reduceNeg, Int.reduceBEq, Int.reduceBNe, Int.reduceAdd, Int.reduceSub, Nat.reduceBEq, reduceCtorEq, Nat.reduceMul, TEP, pvNilI, tis, ens, nts, Tryd.results7]
        exact Reif.dat rfl
      · have hc : l ≤ m := by have := of_decide_eq_false hc; omega
        have e1 : decide (((Lib.decDigits l).length : Int) ≤ ((Lib.decDigits m).length : Int)) = true := by have := dec_mono hc; rw [decide_eq_true_eq]; omega
        have e2 : decide (((grp l).length : Int) ≤ ((grp m).length : Int)) = true := by have := grp_mono m l hc; rw [decide_eq_true_eq]; omega
        have e4 : (Lib.decDigits l == Lib.decDigits m) = ((l : Int) == (m : Int)) := by
          rw [Bool.eq_iff_iff, beq_iff_eq, beq_iff_eq]
          refine ⟨fun h => ?_, fun h => ?_⟩
          · have h2 := congrArg (valA 0) h
            rw [dec_val, dec_val] at h2
            omega
          · rw [show l = m by omega]
        have e5 : (grp l == grp m) = ((l : Int) == (m : Int)) := by
          rw [Bool.eq_iff_iff, beq_iff_eq, beq_iff_eq]
          refine ⟨fun h => ?_, fun h => ?_⟩
          · have h2 := congrArg vgD h
            rw [vgD_grp, vgD_grp] at h2
            omega
          · rw [show l = m by omega]
        have e6 : decide (((Lib.decDigits m).length : Int) ≤ 10) = true := by have := dec_len (k := 9) (show m < 10 ^ 10 by omega); rw [decide_eq_true_eq]; omega
        have e7 : decide (((grp m).length : Int) ≤ 5) = true := by have := grp_len 4 m (by omega); rw [decide_eq_true_eq]; omega
        have e3 : decide (((Lib.decDigits l).length : Int) < ((Lib.decDigits m).length : Int)) = true ∨ (Op.bytesLess (Lib.decDigits l) (Lib.decDigits m) || Lib.decDigits l == Lib.decDigits m) = true := by
          by_cases h : (Lib.decDigits l).length < (Lib.decDigits m).length
          · exact .inl (by rw [decide_eq_true_eq]; omega)
          · have := dec_mono hc
            exact .inr (less_of _ _ 0 0 (by omega) (dec_dig l) (dec_dig m) (Nat.le_refl _) (by rw [dec_val, dec_val]; exact hc) rfl)
        cases e8 : decide (((Lib.decDigits l).length : Int) < ((Lib.decDigits m).length : Int)) with
        | true =>
          simp only [sa0.down, sa1.down, sa2.down, sa3.down, sa4.down, sb0.down, sb1.down, sb2.down, sb3.down, ↓reduceIte, Nat.reduceEqDiff, Nat.reduceLT, Nat.reduceLeDiff, Nat.reduceAdd, Nat.reduceSub, Int.reduceToNat, Nat.reduceDiv, Int.reduceLT, Int.reduceLE, Int.reduceNeg, Int.reduceBEq, Int.reduceBNe, Int.reduceAdd, Int.reduceSub, Nat.reduceBEq, reduceCtorEq, Nat.reduceMul, TEP, pvNilI, tis, ens, nts, Tryd.results7, e1, e2, e8, e4, e5, e6, e7, beq_self_eq_true]
          exact Reif.dat rfl
        | false =>
          have e9 := e3.resolve_left (by rw [e8]; exact Bool.false_ne_true)
          rw [e4] at e9
          simp only [sa0.down, sa1.down, sa2.down, sa3.down, sa4.down, sb0.down, sb1.down, sb2.down, sb3.down, ↓reduceIte, Nat.reduceEqDiff, Nat.reduceLT, Nat.reduceLeDiff, Nat.reduceAdd, Nat.reduceSub, Int.reduceToNat, Nat.reduceDiv, Int.reduceLT, Int.reduceLE, Int.reduceNeg, Int.reduceBEq, Int.reduceBNe, Int.reduceAdd, Int.reduceSub, Nat.reduceBEq, reduceCtorEq, Nat.reduceMul, TEP, pvNilI, tis, ens, nts, Tryd.results7, e1, e2, e8, e4, e9, e5, e6, e7, beq_self_eq_true]
          exact Reif.dat rfl

theorem und_cut {m k : Nat} (hk : k < (grp m).length) : undR ((grp m).take k) 0 = (0, 0, 10) := by
  obtain ⟨x, c, h, h1, h2⟩ := grp_split m
  rw [h] at hk ⊢
  rw [List.length_append, List.length_singleton] at hk
  rw [List.take_append_of_le_length (by omega)]
  have h3 : ∀ b ∈ x.take k, 128 ≤ b.toNat := fun b hb => h1 b (List.mem_of_mem_take hb)
  generalize x.take k = y at h3
  have h4 : (y.takeWhile fun c => decide (128 ≤ c.toNat)) = y := by
    have := List.takeWhile_append_of_pos (l₂ := []) (p := fun c : UInt8 => decide (128 ≤ c.toNat)) (l₁ := y) fun b hb => by simpa using h3 b hb
    simpa using this
  unfold undR
  rw [if_neg (by omega), show (0 : Int).toNat = 0 from rfl, List.drop_zero, h4, if_pos rfl]
theorem get_more {m e : Nat} (he : e < 10) : getR (Lib.decDigits m ++ [UInt8.ofNat (48 + e)]) 0 =
    if m ≠ 0 ∧ 10 * m + e ≤ 2147483647 then (((10 * m + e : Nat) : Int), (((Lib.decDigits m).length + 1 : Nat) : Int), 0) else (0, 0, 3) := by
  have hall : ∀ c ∈ Lib.decDigits m ++ [UInt8.ofNat (48 + e)], isDig c = true := by
    intro c hc
    rcases List.mem_append.1 hc with hc | hc
    · exact dec_dig m c hc
    · rw [List.mem_singleton.1 hc]; exact isDig_of he
  have htw : (Lib.decDigits m ++ [UInt8.ofNat (48 + e)]).takeWhile isDig = Lib.decDigits m ++ [UInt8.ofNat (48 + e)] := by
    have := List.takeWhile_append_of_pos (l₂ := []) hall
    simpa using this
  have hv : valA 0 (Lib.decDigits m ++ [UInt8.ofNat (48 + e)]) = 10 * m + e := by
    rw [valA_app, dec_val]
    show 10 * m + ((UInt8.ofNat (48 + e)).toNat - 48) = _
    rw [ofNat_toNat he]; omega
  have hne : Lib.decDigits m ++ [UInt8.ofNat (48 + e)] ≠ [] := by simp
  have hc := dec_canon _ hall hne
  have hlen : 1 < (Lib.decDigits m ++ [UInt8.ofNat (48 + e)]).length := by
    have := List.length_pos_iff.2 (dec_ne m)
    rw [List.length_append, List.length_singleton]; omega
  have hhead : (Lib.decDigits m ++ [UInt8.ofNat (48 + e)]).head? = some 48 ↔ m = 0 := by
    refine ⟨fun h => ?_, fun h => ?_⟩
    · rcases hd : Lib.decDigits m with _ | ⟨c, t⟩
      · exact absurd hd (dec_ne m)
      · rw [hd] at h
        have hc : c = 48 := by simpa using h
        subst hc
        have ht := dec_zero _ _ hd
        subst ht
        have h1 := congrArg (valA 0) hd
        rw [dec_val] at h1
        exact h1
    · subst h; rw [Lib.decDigits_one (by omega)]; rfl
  have hg : good (Lib.decDigits m ++ [UInt8.ofNat (48 + e)]) ↔ (m ≠ 0 ∧ 10 * m + e ≤ 2147483647) := by
    unfold good
    rw [hc, hhead, hv]
    constructor
    · rintro ⟨h1, h2⟩; exact ⟨fun h => h2 ⟨h, hlen⟩, h1⟩
    · rintro ⟨h1, h2⟩; exact ⟨h2, fun h => h1 h.1⟩
  unfold getR
  rw [if_neg (by omega), show (0 : Int).toNat = 0 from rfl, List.drop_zero, htw]
  by_cases h : m ≠ 0 ∧ 10 * m + e ≤ 2147483647
  · rw [if_pos ⟨hne, hg.2 h⟩, if_pos h, hv, List.length_append, List.length_singleton, Int.zero_add]
  · rw [if_neg (fun k => h (hg.1 k.2)), if_neg h]
theorem dig10u (c : UInt8) : IntKind.u8.wrap (48 + (c.toNat : Int).tmod 10) = ((UInt8.ofNat (48 + c.toNat % 10)).toNat : Int) := by
  rw [show (c.toNat : Int).tmod 10 = ((c.toNat % 10 : Nat) : Int) from rfl, IntKind.wrap_u8, ofNat_toNat (Nat.mod_lt _ (by omega))]
  omega

set_option maxRecDepth 100000 in
set_option maxHeartbeats 4000000 in
theorem ev_cuts (n : Int) (c i : UInt8) : Ev TE 8 [vi n, .int .u8 c.toNat, .int .u8 i.toNat] (.bool true) := by
  refine Ev.of_awp Tryd.func8 rfl (by simp [nts]) (vc_ok mixed _ _ _ _ ?_)
  simp only [sa0.down, sa1.down, sa2.down, sa3.down, sa4.down, sb0.down, sb1.down, sb2.down, sb3.down, ↓reduceIte, Nat.reduceEqDiff, Nat.reduceLT, Nat.reduceLeDiff, Nat.reduceAdd, Nat.reduceSub, Int.reduceToNat, Nat.reduceDiv, Int.reduceLT, Int.reduceLE, Int.reduceNeg, Int.reduceBEq, Int.reduceBNe, Int.reduceAdd, Int.reduceSub, Nat.reduceBEq, reduceCtorEq, Nat.reduceMul, TEP, pvNilI, tis, ens, nts, Tryd.results8]
  refine ACalls.ev ev_works rfl ?_
  simp only [sa0.down, sa1.down, sa2.down, sa3.down, sa4.down, sb0.down, sb1.down, sb2.down, sb3.down, ↓reduceIte, Nat.reduceEqDiff, Nat.reduceLT, Nat.reduceLeDiff, Nat.reduceAdd, Nat.reduceSub, Int.reduceToNat, Nat.reduceDiv, Int.reduceLT, Int.reduceLE, Int.reduceNeg, Int.reduceBEq, Int.reduceBNe, Int.reduceAdd, Int.reduceSub, Nat.reduceBEq, reduceCtorEq, Nat.reduceMul, TEP, pvNilI, tis, ens, nts, Tryd.results8]
  refine ACalls.ev (ev_Delta n) rfl ?_
  simp only [sa0.down, sa1.down, sa2.down, sa3.down, sa4.down, sb0.down, sb1.down, sb2.down, sb3.down, ↓reduceIte, Nat.reduceEqDiff, Nat.reduceLT, Nat.reduceLeDiff, Nat.reduceAdd, Nat.reduceSub, Int.reduceToNat, Nat.reduceDiv, Int.reduceLT, Int.reduceLE, Int.reduceNeg, Int.reduceBEq, Int.reduceBNe, Int.reduceAdd, Int.reduceSub, Nat.reduceBEq, reduceCtorEq, Nat.reduceMul, TEP, pvNilI, tis, ens, nts, Tryd.results8]
  refine ACalls.ev (ev_put n) rfl ?_
  cases hf : fitsB n with
  | false =>
    rw [putV_no hf, deltaV_no hf]
    simp only [sa0.down, sa1.down, sa2.down, sa3.down, sa4.down, sb0.down, sb1.down, sb2.down, sb3.down, ↓reduceIte, Nat.reduceEqDiff, Nat.reduceLT, Nat.reduceLeDiff, Nat.reduceAdd, Nat.reduceSub, Int.reduceToNat, Nat.reduceDiv, Int.reduceLT, Int.reduceLE, Int.reduceNeg, Int.reduceBEq, Int.reduceBNe, Int.reduceAdd, Int.reduceSub, Nat.reduceBEq, reduceCtorEq, Nat.reduceMul, TEP, pvNilI, tis, ens, nts, Tryd.results8]
    exact Reif.dat rfl
  | true =>
    obtain ⟨m, rfl, hm⟩ := fits_of hf
    rw [putV_ok hm, deltaV_ok hm]
    have hi := i.toNat_lt
    have hgp := grp_pos m
    have hw : IntKind.i64.wrap (i.toNat : Int) = (i.toNat : Int) := wrapn (by omega) (by omega)
    have hmod : (i.toNat : Int).tmod ((grp m).length : Int) = ((i.toNat % (grp m).length : Nat) : Int) := rfl
    have hlt := Nat.mod_lt i.toNat hgp
    have hgl := grp_len 4 m (by omega)
    have hdl := dec_len (k := 9) (show m < 10 ^ 10 by omega)
    have hM : maxLen = 9223372036854775807 := rfl
    simp only [sa0.down, sa1.down, sa2.down, sa3.down, sa4.down, sb0.down, sb1.down, sb2.down, sb3.down, ↓reduceIte, Nat.reduceEqDiff, Nat.reduceLT, Nat.reduceLeDiff, Nat.reduceAdd, Nat.reduceSub, Int.reduceToNat, Nat.reduceDiv, Int.reduceLT, Int.reduceLE, Int.reduceNeg, Int.reduceBEq, Int.reduceBNe, Int.reduceAdd, Int.reduceSub, Nat.reduceBEq, reduceCtorEq, Nat.reduceMul, TEP, pvNilI, tis, ens, nts, Tryd.results8, conv53, hw, hmod]
    refine ⟨by omega, ⟨by omega, by omega⟩, ACalls.ev (ev_Undelta _ 0 (by rw [List.length_take]; omega)) rfl ?_⟩
    rw [und_cut hlt]
    simp only [sa0.down, sa1.down, sa2.down, sa3.down, sa4.down, sb0.down, sb1.down, sb2.down, sb3.down, ↓reduceIte, Nat.reduceEqDiff, Nat.reduceLT, Nat.reduceLeDiff, Nat.reduceAdd, Nat.reduceSub, Int.reduceToNat, Nat.reduceDiv, Int.reduceLT, Int.reduceLE, Int.reduceNeg, Int.reduceBEq, Int.reduceBNe, Int.reduceAdd, Int.reduceSub, Nat.reduceBEq, reduceCtorEq, Nat.reduceMul, TEP, pvNilI, tis, ens, nts, Tryd.results8, dig10u, conv_one]
    have hc10 := Nat.mod_lt c.toNat (show 0 < 10 by omega)
    refine ⟨by decide, ⟨rfl, by decide⟩, by omega, ACalls.ev (ev_Get _ 0 (by rw [List.length_append, List.length_singleton]; omega)) rfl ?_⟩
    rw [get_more hc10]
    by_cases h : m ≠ 0 ∧ 10 * m + c.toNat % 10 ≤ 2147483647
    · have w1 : IntKind.i64.wrap (((Lib.decDigits m).length : Int) + 1) = (((Lib.decDigits m).length + 1 : Nat) : Int) := by rw [wrapn (by omega) (by omega)]; omega
      have w2 : IntKind.i64.wrap (10 * (m : Int)) = ((10 * m : Nat) : Int) := by rw [wrapn (by omega) (by omega)]; omega
      have w3 : IntKind.i64.wrap (((10 * m : Nat) : Int) + ((c.toNat % 10 : Nat) : Int)) = ((10 * m + c.toNat % 10 : Nat) : Int) := by rw [wrapn (by omega) (by omega)]; omega
      have w4 : IntKind.i64.wrap (((c.toNat % 10 : Nat) : Int)) = ((c.toNat % 10 : Nat) : Int) := by rw [wrapn (by omega) (by omega)]
      have w5 : (c.toNat : Int).tmod 10 = ((c.toNat % 10 : Nat) : Int) := rfl
      rw [if_pos h]
      simp only [sa0.down, sa1.down, sa2.down, sa3.down, sa4.down, sb0.down, sb1.down, sb2.down, sb3.down, ↓reduceIte, Nat.reduceEqDiff, Nat.reduceLT, Nat.reduceLeDiff, Nat.reduceAdd, Nat.reduceSub, Int.reduceToNat, Nat.reduceDiv, Int.reduceLT, Int.reduceLE, Int.reduceNeg, Int.reduceBEq, Int.reduceBNe, Int.reduceAdd, Int.reduceSub, Nat.reduceBEq, reduceCtorEq, Nat.reduceMul, TEP, pvNilI, tis, ens, nts, Tryd.results8, conv53, w1, w2, w3, w4, w5, beq_self_eq_true]
      exact ⟨by decide, Reif.dat rfl⟩
    · rw [if_neg h]
      by_cases h0 : m = 0
      · subst h0
        simp only [sa0.down, sa1.down, sa2.down, sa3.down, sa4.down, sb0.down, sb1.down, sb2.down, sb3.down, ↓reduceIte, Nat.reduceEqDiff, Nat.reduceLT, Nat.reduceLeDiff, Nat.reduceAdd, Nat.reduceSub, Int.reduceToNat, Nat.reduceDiv, Int.reduceLT, Int.reduceLE, Int.reduceNeg, Int.reduceBEq, Int.reduceBNe, Int.reduceAdd, Int.reduceSub, Nat.reduceBEq, reduceCtorEq, Nat.reduceMul, TEP, pvNilI, tis, ens, nts, Tryd.results8, conv53, beq_self_eq_true]
        exact Reif.dat rfl
      · have e1 : ((m : Int) == 0) = false := by rw [beq_eq_false_iff_ne]; omega
        have e2 : decide (214748363 < (m : Int)) = true := by rw [decide_eq_true_eq]; omega
        simp only [sa0.down, sa1.down, sa2.down, sa3.down, sa4.down, sb0.down, sb1.down, sb2.down, sb3.down, ↓reduceIte, Nat.reduceEqDiff, Nat.reduceLT, Nat.reduceLeDiff, Nat.reduceAdd, Nat.reduceSub, Int.reduceToNat, Nat.reduceDiv, Int.reduceLT, Int.reduceLE, Int.reduceNeg, Int.reduceBEq, Int.reduceBNe, Int.reduceAdd, Int.reduceSub, Nat.reduceBEq, reduceCtorEq, Nat.reduceMul, TEP, pvNilI, tis, ens, nts, Tryd.results8, conv53, beq_self_eq_true, e1, e2]
        exact Reif.dat rfl

end Go.Proofs.YtbikgbnhngmohaaDoor
