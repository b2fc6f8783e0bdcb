/- Functions of the program, part 30. -/
import Derived.Test.YtegnjoonhabicaaF29
set_option linter.unusedVariables false
set_option linter.unusedSimpArgs false
set_option linter.unnecessarySimpa false
namespace Go.Proofs.Ytegnjoonhabicaa
open Go Go.Proofs Go.Abs Go.RowKit

open Classical in
theorem canon_succ (p : Int → Prop) (j : Nat) : canon p (j + 1) = canon p j ++ (if p ((j : Int) + 1) then [(j : Int) + 1] else if p (-((j : Int) + 1)) then [-((j : Int) + 1)] else []) := by
  unfold canon
  rw [List.range_succ, List.filterMap_append]
  congr 1
  by_cases h1 : p ((j : Int) + 1)
  · simp [h1]
  · by_cases h2 : p (-((j : Int) + 1)) <;> simp [h1, h2]

theorem canon_len (p : Int → Prop) (j : Nat) : (canon p j).length ≤ j := by
  unfold canon
  exact Nat.le_trans (List.length_filterMap_le _ _) (by simp)

/-- One more variable. -/
theorem canon_next {l : List Cl} {given on : Cl} {vars j : Nat} (h : FinR l given vars on false) (hj : j < vars) :
    (on[j + 1]'(by have := h.len; omega) = 0 ∧ canon (Der l given) (j + 1) = canon (Der l given) j) ∨
    (on[j + 1]'(by have := h.len; omega) ≠ 0 ∧ (on[j + 1]'(by have := h.len; omega) = 1 ∨ on[j + 1]'(by have := h.len; omega) = -1) ∧ canon (Der l given) (j + 1) = canon (Der l given) j ++ [((j + 1 : Nat) : Int) * on[j + 1]'(by have := h.len; omega)]) := by
  have hlt : j + 1 < on.length := by have := h.len; omega
  have h1 : Der l given ((j : Int) + 1) ↔ on[j + 1] = 1 := by
    rw [← h.iff rfl, hld_iff, show ((j : Int) + 1).natAbs = j + 1 by omega, getD_at hlt]
    unfold sg
    rw [if_neg (by omega)]
  have h2 : Der l given (-((j : Int) + 1)) ↔ on[j + 1] = -1 := by
    rw [← h.iff rfl, hld_iff, show (-((j : Int) + 1)).natAbs = j + 1 by omega, getD_at hlt]
    unfold sg
    rw [if_pos (by omega)]
  have h3 := h.tri _ (List.getElem_mem hlt)
  rw [canon_succ]
  simp only [h1, h2]
  rcases h3 with h3 | h3 | h3
  · right
    rw [h3, if_neg (by decide), if_pos rfl]
    exact ⟨by decide, .inr rfl, by congr 2; omega⟩
  · left
    rw [h3, if_neg (by decide), if_neg (by decide), List.append_nil]
    exact ⟨rfl, rfl⟩
  · right
    rw [h3, if_pos rfl]
    exact ⟨by decide, .inl rfl, by congr 2; omega⟩

set_option maxHeartbeats 4000000 in
theorem ev_rprop (l : List Cl) (vars : Int) (given : Cl) (hgl : given.length ≤ 1000000) (hcl : ∀ c ∈ l, c.length ≤ 1000000) :
    Ev TE 11 [cls l, vi vars, ints given] (.tup [ints (propV l vars given).1, .bool (propV l vars given).2.1, vi (propV l vars given).2.2]) := by
  have hM : maxLen = 9223372036854775807 := rfl
  refine Ev.of_awp Try.func11 rfl (by simp [nts]) (vc_ok mixed _ _ _ _ ?_)
  simp only [sa0.down, sa1.down, sa2.down, sa3.down, sa4.down, sb0.down, sb1.down, sb2.down, sb3.down, ↓reduceIte, Nat.reduceEqDiff, Nat.reduceLT, Nat.reduceLeDiff, Nat.reduceAdd, Nat.reduceSub, Int.reduceToNat, Nat.reduceDiv, Int.reduceLT, Int.reduceLE, Int.reduceNeg, Int.reduceBEq, Int.reduceBNe, Int.reduceAdd, Int.reduceSub, Nat.reduceBEq, reduceCtorEq, Nat.reduceMul, TEP, tis, ens, nts, Try.results11]
  refine ACalls.ev (ev_rcheck l vars) (by simp only [V.dats, V.dat, dats_cls]; rfl) ?_
  simp only [sa0.down, sa1.down, sa2.down, sa3.down, sa4.down, sb0.down, sb1.down, sb2.down, sb3.down, ↓reduceIte, Nat.reduceEqDiff, Nat.reduceLT, Nat.reduceLeDiff, Nat.reduceAdd, Nat.reduceSub, Int.reduceToNat, Nat.reduceDiv, Int.reduceLT, Int.reduceLE, Int.reduceNeg, Int.reduceBEq, Int.reduceBNe, Int.reduceAdd, Int.reduceSub, Nat.reduceBEq, reduceCtorEq, Nat.reduceMul, TEP, tis, ens, nts, Try.results11]
  refine vcB.mk (fun hq => ?_) (fun hq => ?_)
  · have hq : chk l vars ≠ 0 := by simpa using hq
    have ha : ask l vars [given] = chk l vars := by unfold ask; rw [if_pos hq]
    have h0 : propV l vars given = ([], false, chk l vars) := by unfold propV; rw [ha, if_pos hq]
    rw [h0]
    simp only [sa0.down, sa1.down, sa2.down, sa3.down, sa4.down, sb0.down, sb1.down, sb2.down, sb3.down, ↓reduceIte, Nat.reduceEqDiff, Nat.reduceLT, Nat.reduceLeDiff, Nat.reduceAdd, Nat.reduceSub, Int.reduceToNat, Nat.reduceDiv, Int.reduceLT, Int.reduceLE, Int.reduceNeg, Int.reduceBEq, Int.reduceBNe, Int.reduceAdd, Int.reduceSub, Nat.reduceBEq, reduceCtorEq, Nat.reduceMul, TEP, tis, ens, nts, Try.results11]
    exact Reif.tup (Reifs.cons Reif.nils (Reifs.dat rfl))
  · have hq : chk l vars = 0 := by simpa using hq
    obtain ⟨k1, k2, k3, k4⟩ := chk_vars hq
    obtain ⟨n, rfl⟩ : ∃ n : Nat, vars = n := ⟨vars.toNat, by omega⟩
    simp only [sa0.down, sa1.down, sa2.down, sa3.down, sa4.down, sb0.down, sb1.down, sb2.down, sb3.down, ↓reduceIte, Nat.reduceEqDiff, Nat.reduceLT, Nat.reduceLeDiff, Nat.reduceAdd, Nat.reduceSub, Int.reduceToNat, Nat.reduceDiv, Int.reduceLT, Int.reduceLE, Int.reduceNeg, Int.reduceBEq, Int.reduceBNe, Int.reduceAdd, Int.reduceSub, Nat.reduceBEq, reduceCtorEq, Nat.reduceMul, TEP, tis, ens, nts, Try.results11]
    refine ACalls.ev (ev_literals given n k1 k2) (by simp only [V.dats, V.dat, dats_vi]; rfl) ?_
    have ha : ask l n [given] = if given.all (lit n) = true then 0 else 1 := by unfold ask; rw [if_neg (by simp [hq])]; simp
    cases hA : given.all (lit n) with
    | false =>
      have h0 : propV l n given = ([], false, 1) := by unfold propV; rw [ha, hA]; rfl
      rw [h0]
      simp only [sa0.down, sa1.down, sa2.down, sa3.down, sa4.down, sb0.down, sb1.down, sb2.down, sb3.down, ↓reduceIte, Nat.reduceEqDiff, Nat.reduceLT, Nat.reduceLeDiff, Nat.reduceAdd, Nat.reduceSub, Int.reduceToNat, Nat.reduceDiv, Int.reduceLT, Int.reduceLE, Int.reduceNeg, Int.reduceBEq, Int.reduceBNe, Int.reduceAdd, Int.reduceSub, Nat.reduceBEq, reduceCtorEq, Nat.reduceMul, TEP, tis, ens, nts, Try.results11]
      exact Reif.tup (Reifs.cons Reif.nils (Reifs.dat rfl))
    | true =>
      have hl : ∀ c ∈ l, ∀ b ∈ c, b ≠ 0 ∧ b.natAbs ≤ n := fun c hc b hb => by have := lit_rng (k4 c hc b hb); omega
      have hg : ∀ b ∈ given, b ≠ 0 ∧ b.natAbs ≤ n := fun b hb => by have := lit_rng (List.all_eq_true.1 hA b hb); omega
      have ha0 : ask l n [given] = 0 := by rw [ha, hA]; rfl
      simp only [sa0.down, sa1.down, sa2.down, sa3.down, sa4.down, sb0.down, sb1.down, sb2.down, sb3.down, ↓reduceIte, Nat.reduceEqDiff, Nat.reduceLT, Nat.reduceLeDiff, Nat.reduceAdd, Nat.reduceSub, Int.reduceToNat, Nat.reduceDiv, Int.reduceLT, Int.reduceLE, Int.reduceNeg, Int.reduceBEq, Int.reduceBNe, Int.reduceAdd, Int.reduceSub, Nat.reduceBEq, reduceCtorEq, Nat.reduceMul, TEP, tis, ens, nts, Try.results11]
      refine ACalls.evR (ev_Reach l n given (by omega) (by omega) hcl hgl hl hg) (by simp only [V.dats, V.dat, dats_cls, dats_vi]; rfl) ?_
      rintro r ⟨on, bad, rfl, hfin⟩
      have hlen := hfin.len
      cases bad with
      | true =>
        have h0 : propV l n given = ([], true, 0) := by unfold propV; rw [ha0, if_neg (by simp), if_pos (hfin.isb rfl)]
        rw [h0]
        simp only [sa0.down, sa1.down, sa2.down, sa3.down, sa4.down, sb0.down, sb1.down, sb2.down, sb3.down, ↓reduceIte, Nat.reduceEqDiff, Nat.reduceLT, Nat.reduceLeDiff, Nat.reduceAdd, Nat.reduceSub, Int.reduceToNat, Nat.reduceDiv, Int.reduceLT, Int.reduceLE, Int.reduceNeg, Int.reduceBEq, Int.reduceBNe, Int.reduceAdd, Int.reduceSub, Nat.reduceBEq, reduceCtorEq, Nat.reduceMul, TEP, tis, ens, nts, Try.results11]
        exact Reif.tup (Reifs.cons Reif.nils (Reifs.dat rfl))
      | false =>
        have h0 : propV l n given = (canon (Der l given) n, false, 0) := by unfold propV; rw [ha0, if_neg (by simp), if_neg (hfin.not rfl)]; rfl
        rw [h0]
        simp only [sa0.down, sa1.down, sa2.down, sa3.down, sa4.down, sb0.down, sb1.down, sb2.down, sb3.down, ↓reduceIte, Nat.reduceEqDiff, Nat.reduceLT, Nat.reduceLeDiff, Nat.reduceAdd, Nat.reduceSub, Int.reduceToNat, Nat.reduceDiv, Int.reduceLT, Int.reduceLE, Int.reduceNeg, Int.reduceBEq, Int.reduceBNe, Int.reduceAdd, Int.reduceSub, Nat.reduceBEq, reduceCtorEq, Nat.reduceMul, TEP, tis, ens, nts, Try.results11]
        refine awp_loop (fun m f h => ∃ j, m + j = n ∧ f.t 1 = vi n ∧ f.t 10 = .lp 0 0 ∧ f.t 12 = vi ((j + 1 : Nat) : Int) ∧ f.d = [] ∧ RowV 1 ((canon (Der l given) j).map vi) (f.t 11) [.cells [ints on, .bool false]] h) n ⟨0, by omega, rfl, rfl, rfl, rfl, .inl ⟨rfl, rfl, rfl⟩⟩ ?_
        rintro m f h ⟨j, hm, h1, h10, h12, hd, hrow⟩
        have hcl := canon_len (Der l given) j
        have hcond : decide (((j + 1 : Nat) : Int) ≤ (n : Int)) = decide (j < n) := by
          rw [decide_eq_decide]; omega
        rcases hrow with ⟨ho, hv, rfl⟩ | ⟨hv, rfl⟩
        · have ho2 : canon (Der l given) j = [] := by simpa using ho
          refine vc_ok mixed _ _ _ _ ?_
          simp only [sa0.down, sa1.down, sa2.down, sa3.down, sa4.down, sb0.down, sb1.down, sb2.down, sb3.down, ↓reduceIte, Nat.reduceEqDiff, Nat.reduceLT, Nat.reduceLeDiff, Nat.reduceAdd, Nat.reduceSub, Int.reduceToNat, Nat.reduceDiv, Int.reduceLT, Int.reduceLE, Int.reduceNeg, Int.reduceBEq, Int.reduceBNe, Int.reduceAdd, Int.reduceSub, Nat.reduceBEq, reduceCtorEq, Nat.reduceMul, TEP, tis, ens, nts, Try.results11, h1, h10, h12, hd, hv, hcond]
          refine vcB.mk (fun hc => ?_) (fun hc => ?_)
          · have hj : j < n := by simpa using hc
            have hlt : j + 1 < on.length := by omega
            have hw := wrap_succ (show j + 1 < maxLen by omega)
            simp only [sa0.down, sa1.down, sa2.down, sa3.down, sa4.down, sb0.down, sb1.down, sb2.down, sb3.down, ↓reduceIte, Nat.reduceEqDiff, Nat.reduceLT, Nat.reduceLeDiff, Nat.reduceAdd, Nat.reduceSub, Int.reduceToNat, Nat.reduceDiv, Int.reduceLT, Int.reduceLE, Int.reduceNeg, Int.reduceBEq, Int.reduceBNe, Int.reduceAdd, Int.reduceSub, Nat.reduceBEq, reduceCtorEq, Nat.reduceMul, TEP, tis, ens, nts, Try.results11, h1, h10, h12, hd, hv, getI hlt]
            rcases canon_next hfin hj with ⟨z1, z2⟩ | ⟨z1, z2, z3⟩
            · have z4 : (on[j + 1] != 0) = false := by rw [z1]; rfl
              simp only [sa0.down, sa1.down, sa2.down, sa3.down, sa4.down, sb0.down, sb1.down, sb2.down, sb3.down, ↓reduceIte, Nat.reduceEqDiff, Nat.reduceLT, Nat.reduceLeDiff, Nat.reduceAdd, Nat.reduceSub, Int.reduceToNat, Nat.reduceDiv, Int.reduceLT, Int.reduceLE, Int.reduceNeg, Int.reduceBEq, Int.reduceBNe, Int.reduceAdd, Int.reduceSub, Nat.reduceBEq, reduceCtorEq, Nat.reduceMul, TEP, tis, ens, nts, Try.results11, h1, h10, h12, hd, hv, z4, hw]
              exact ⟨⟨by omega, by omega⟩, .inl ⟨m - 1, by omega, j + 1, by omega, by simp only [sa0.down, sa1.down, sa2.down, sa3.down, sa4.down, sb0.down, sb1.down, sb2.down, sb3.down, ↓reduceIte, Nat.reduceEqDiff, Nat.reduceLT, Nat.reduceLeDiff, Nat.reduceAdd, Nat.reduceSub, Int.reduceToNat, Nat.reduceDiv, Int.reduceLT, Int.reduceLE, Int.reduceNeg, Int.reduceBEq, Int.reduceBNe, Int.reduceAdd, Int.reduceSub, Nat.reduceBEq, reduceCtorEq, Nat.reduceMul, TEP, tis, ens, nts, Try.results11, h1], by simp only [sa0.down, sa1.down, sa2.down, sa3.down, sa4.down, sb0.down, sb1.down, sb2.down, sb3.down, ↓reduceIte, Nat.reduceEqDiff, Nat.reduceLT, Nat.reduceLeDiff, Nat.reduceAdd, Nat.reduceSub, Int.reduceToNat, Nat.reduceDiv, Int.reduceLT, Int.reduceLE, Int.reduceNeg, Int.reduceBEq, Int.reduceBNe, Int.reduceAdd, Int.reduceSub, Nat.reduceBEq, reduceCtorEq, Nat.reduceMul, TEP, tis, ens, nts, Try.results11, h10], by simp only [sa0.down, sa1.down, sa2.down, sa3.down, sa4.down, sb0.down, sb1.down, sb2.down, sb3.down, ↓reduceIte, Nat.reduceEqDiff, Nat.reduceLT, Nat.reduceLeDiff, Nat.reduceAdd, Nat.reduceSub, Int.reduceToNat, Nat.reduceDiv, Int.reduceLT, Int.reduceLE, Int.reduceNeg, Int.reduceBEq, Int.reduceBNe, Int.reduceAdd, Int.reduceSub, Nat.reduceBEq, reduceCtorEq, Nat.reduceMul, TEP, tis, ens, nts, Try.results11], by simp only [sa0.down, sa1.down, sa2.down, sa3.down, sa4.down, sb0.down, sb1.down, sb2.down, sb3.down, ↓reduceIte, Nat.reduceEqDiff, Nat.reduceLT, Nat.reduceLeDiff, Nat.reduceAdd, Nat.reduceSub, Int.reduceToNat, Nat.reduceDiv, Int.reduceLT, Int.reduceLE, Int.reduceNeg, Int.reduceBEq, Int.reduceBNe, Int.reduceAdd, Int.reduceSub, Nat.reduceBEq, reduceCtorEq, Nat.reduceMul, TEP, tis, ens, nts, Try.results11, hd], by rw [z2]; exact .inl ⟨ho, hv, rfl⟩⟩⟩
            · have z4 : (on[j + 1] != 0) = true := bne_iff_ne.2 z1
              have z5 : IntKind.i64.wrap (((j + 1 : Nat) : Int) * on[j + 1]) = ((j + 1 : Nat) : Int) * on[j + 1] := by
                rcases z2 with z2 | z2 <;> rw [z2] <;> exact wrapn (by omega) (by omega)
              simp only [sa0.down, sa1.down, sa2.down, sa3.down, sa4.down, sb0.down, sb1.down, sb2.down, sb3.down, ↓reduceIte, Nat.reduceEqDiff, Nat.reduceLT, Nat.reduceLeDiff, Nat.reduceAdd, Nat.reduceSub, Int.reduceToNat, Nat.reduceDiv, Int.reduceLT, Int.reduceLE, Int.reduceNeg, Int.reduceBEq, Int.reduceBNe, Int.reduceAdd, Int.reduceSub, Nat.reduceBEq, reduceCtorEq, Nat.reduceMul, TEP, tis, ens, nts, Try.results11, h1, h10, h12, hd, hv, z4, z5, hw, getI hlt]
              refine ⟨⟨by omega, by omega⟩, ⟨by omega, by omega⟩, ⟨rfl, by decide⟩, by omega, .inl ⟨m - 1, by omega, j + 1, by omega, by simp only [sa0.down, sa1.down, sa2.down, sa3.down, sa4.down, sb0.down, sb1.down, sb2.down, sb3.down, ↓reduceIte, Nat.reduceEqDiff, Nat.reduceLT, Nat.reduceLeDiff, Nat.reduceAdd, Nat.reduceSub, Int.reduceToNat, Nat.reduceDiv, Int.reduceLT, Int.reduceLE, Int.reduceNeg, Int.reduceBEq, Int.reduceBNe, Int.reduceAdd, Int.reduceSub, Nat.reduceBEq, reduceCtorEq, Nat.reduceMul, TEP, tis, ens, nts, Try.results11, h1], by simp only [sa0.down, sa1.down, sa2.down, sa3.down, sa4.down, sb0.down, sb1.down, sb2.down, sb3.down, ↓reduceIte, Nat.reduceEqDiff, Nat.reduceLT, Nat.reduceLeDiff, Nat.reduceAdd, Nat.reduceSub, Int.reduceToNat, Nat.reduceDiv, Int.reduceLT, Int.reduceLE, Int.reduceNeg, Int.reduceBEq, Int.reduceBNe, Int.reduceAdd, Int.reduceSub, Nat.reduceBEq, reduceCtorEq, Nat.reduceMul, TEP, tis, ens, nts, Try.results11, h10], by simp only [sa0.down, sa1.down, sa2.down, sa3.down, sa4.down, sb0.down, sb1.down, sb2.down, sb3.down, ↓reduceIte, Nat.reduceEqDiff, Nat.reduceLT, Nat.reduceLeDiff, Nat.reduceAdd, Nat.reduceSub, Int.reduceToNat, Nat.reduceDiv, Int.reduceLT, Int.reduceLE, Int.reduceNeg, Int.reduceBEq, Int.reduceBNe, Int.reduceAdd, Int.reduceSub, Nat.reduceBEq, reduceCtorEq, Nat.reduceMul, TEP, tis, ens, nts, Try.results11], by simp only [sa0.down, sa1.down, sa2.down, sa3.down, sa4.down, sb0.down, sb1.down, sb2.down, sb3.down, ↓reduceIte, Nat.reduceEqDiff, Nat.reduceLT, Nat.reduceLeDiff, Nat.reduceAdd, Nat.reduceSub, Int.reduceToNat, Nat.reduceDiv, Int.reduceLT, Int.reduceLE, Int.reduceNeg, Int.reduceBEq, Int.reduceBNe, Int.reduceAdd, Int.reduceSub, Nat.reduceBEq, reduceCtorEq, Nat.reduceMul, TEP, tis, ens, nts, Try.results11, hd], by rw [z3, List.map_append]; exact .inr ⟨by simp only [sa0.down, sa1.down, sa2.down, sa3.down, sa4.down, sb0.down, sb1.down, sb2.down, sb3.down, ↓reduceIte, Nat.reduceEqDiff, Nat.reduceLT, Nat.reduceLeDiff, Nat.reduceAdd, Nat.reduceSub, Int.reduceToNat, Nat.reduceDiv, Int.reduceLT, Int.reduceLE, Int.reduceNeg, Int.reduceBEq, Int.reduceBNe, Int.reduceAdd, Int.reduceSub, Nat.reduceBEq, reduceCtorEq, Nat.reduceMul, TEP, tis, ens, nts, Try.results11, ho2, List.map_nil, List.nil_append], by simp only [sa0.down, sa1.down, sa2.down, sa3.down, sa4.down, sb0.down, sb1.down, sb2.down, sb3.down, ↓reduceIte, Nat.reduceEqDiff, Nat.reduceLT, Nat.reduceLeDiff, Nat.reduceAdd, Nat.reduceSub, Int.reduceToNat, Nat.reduceDiv, Int.reduceLT, Int.reduceLE, Int.reduceNeg, Int.reduceBEq, Int.reduceBNe, Int.reduceAdd, Int.reduceSub, Nat.reduceBEq, reduceCtorEq, Nat.reduceMul, TEP, tis, ens, nts, Try.results11, ho2, List.map_nil, List.nil_append]⟩⟩⟩
          · have hj : j = n := by have := of_decide_eq_false hc; omega
            subst hj
            simp only [sa0.down, sa1.down, sa2.down, sa3.down, sa4.down, sb0.down, sb1.down, sb2.down, sb3.down, ↓reduceIte, Nat.reduceEqDiff, Nat.reduceLT, Nat.reduceLeDiff, Nat.reduceAdd, Nat.reduceSub, Int.reduceToNat, Nat.reduceDiv, Int.reduceLT, Int.reduceLE, Int.reduceNeg, Int.reduceBEq, Int.reduceBNe, Int.reduceAdd, Int.reduceSub, Nat.reduceBEq, reduceCtorEq, Nat.reduceMul, TEP, tis, ens, nts, Try.results11, h1, h10, h12, hd, hv]
            rw [ho2]
            exact Reif.tup (Reifs.cons Reif.nils (Reifs.dat rfl))
        · refine vc_ok mixed _ _ _ _ ?_
          simp only [sa0.down, sa1.down, sa2.down, sa3.down, sa4.down, sb0.down, sb1.down, sb2.down, sb3.down, ↓reduceIte, Nat.reduceEqDiff, Nat.reduceLT, Nat.reduceLeDiff, Nat.reduceAdd, Nat.reduceSub, Int.reduceToNat, Nat.reduceDiv, Int.reduceLT, Int.reduceLE, Int.reduceNeg, Int.reduceBEq, Int.reduceBNe, Int.reduceAdd, Int.reduceSub, Nat.reduceBEq, reduceCtorEq, Nat.reduceMul, TEP, tis, ens, nts, Try.results11, h1, h10, h12, hd, hv, hcond]
          refine vcB.mk (fun hc => ?_) (fun hc => ?_)
          · have hj : j < n := by simpa using hc
            have hlt : j + 1 < on.length := by omega
            have hw := wrap_succ (show j + 1 < maxLen by omega)
            simp only [sa0.down, sa1.down, sa2.down, sa3.down, sa4.down, sb0.down, sb1.down, sb2.down, sb3.down, ↓reduceIte, Nat.reduceEqDiff, Nat.reduceLT, Nat.reduceLeDiff, Nat.reduceAdd, Nat.reduceSub, Int.reduceToNat, Nat.reduceDiv, Int.reduceLT, Int.reduceLE, Int.reduceNeg, Int.reduceBEq, Int.reduceBNe, Int.reduceAdd, Int.reduceSub, Nat.reduceBEq, reduceCtorEq, Nat.reduceMul, TEP, tis, ens, nts, Try.results11, h1, h10, h12, hd, hv, getI hlt]
            rcases canon_next hfin hj with ⟨z1, z2⟩ | ⟨z1, z2, z3⟩
            · have z4 : (on[j + 1] != 0) = false := by rw [z1]; rfl
              simp only [sa0.down, sa1.down, sa2.down, sa3.down, sa4.down, sb0.down, sb1.down, sb2.down, sb3.down, ↓reduceIte, Nat.reduceEqDiff, Nat.reduceLT, Nat.reduceLeDiff, Nat.reduceAdd, Nat.reduceSub, Int.reduceToNat, Nat.reduceDiv, Int.reduceLT, Int.reduceLE, Int.reduceNeg, Int.reduceBEq, Int.reduceBNe, Int.reduceAdd, Int.reduceSub, Nat.reduceBEq, reduceCtorEq, Nat.reduceMul, TEP, tis, ens, nts, Try.results11, h1, h10, h12, hd, hv, z4, hw]
              exact ⟨⟨by omega, by omega⟩, .inl ⟨m - 1, by omega, j + 1, by omega, by simp only [sa0.down, sa1.down, sa2.down, sa3.down, sa4.down, sb0.down, sb1.down, sb2.down, sb3.down, ↓reduceIte, Nat.reduceEqDiff, Nat.reduceLT, Nat.reduceLeDiff, Nat.reduceAdd, Nat.reduceSub, Int.reduceToNat, Nat.reduceDiv, Int.reduceLT, Int.reduceLE, Int.reduceNeg, Int.reduceBEq, Int.reduceBNe, Int.reduceAdd, Int.reduceSub, Nat.reduceBEq, reduceCtorEq, Nat.reduceMul, TEP, tis, ens, nts, Try.results11, h1], by simp only [sa0.down, sa1.down, sa2.down, sa3.down, sa4.down, sb0.down, sb1.down, sb2.down, sb3.down, ↓reduceIte, Nat.reduceEqDiff, Nat.reduceLT, Nat.reduceLeDiff, Nat.reduceAdd, Nat.reduceSub, Int.reduceToNat, Nat.reduceDiv, Int.reduceLT, Int.reduceLE, Int.reduceNeg, Int.reduceBEq, Int.reduceBNe, Int.reduceAdd, Int.reduceSub, Nat.reduceBEq, reduceCtorEq, Nat.reduceMul, TEP, tis, ens, nts, Try.results11, h10], by simp only [sa0.down, sa1.down, sa2.down, sa3.down, sa4.down, sb0.down, sb1.down, sb2.down, sb3.down, ↓reduceIte, Nat.reduceEqDiff, Nat.reduceLT, Nat.reduceLeDiff, Nat.reduceAdd, Nat.reduceSub, Int.reduceToNat, Nat.reduceDiv, Int.reduceLT, Int.reduceLE, Int.reduceNeg, Int.reduceBEq, Int.reduceBNe, Int.reduceAdd, Int.reduceSub, Nat.reduceBEq, reduceCtorEq, Nat.reduceMul, TEP, tis, ens, nts, Try.results11], by simp only [sa0.down, sa1.down, sa2.down, sa3.down, sa4.down, sb0.down, sb1.down, sb2.down, sb3.down, ↓reduceIte, Nat.reduceEqDiff, Nat.reduceLT, Nat.reduceLeDiff, Nat.reduceAdd, Nat.reduceSub, Int.reduceToNat, Nat.reduceDiv, Int.reduceLT, Int.reduceLE, Int.reduceNeg, Int.reduceBEq, Int.reduceBNe, Int.reduceAdd, Int.reduceSub, Nat.reduceBEq, reduceCtorEq, Nat.reduceMul, TEP, tis, ens, nts, Try.results11, hd], by rw [z2]; exact .inr ⟨hv, rfl⟩⟩⟩
            · have z4 : (on[j + 1] != 0) = true := bne_iff_ne.2 z1
              have z5 : IntKind.i64.wrap (((j + 1 : Nat) : Int) * on[j + 1]) = ((j + 1 : Nat) : Int) * on[j + 1] := by
                rcases z2 with z2 | z2 <;> rw [z2] <;> exact wrapn (by omega) (by omega)
              simp only [sa0.down, sa1.down, sa2.down, sa3.down, sa4.down, sb0.down, sb1.down, sb2.down, sb3.down, ↓reduceIte, Nat.reduceEqDiff, Nat.reduceLT, Nat.reduceLeDiff, Nat.reduceAdd, Nat.reduceSub, Int.reduceToNat, Nat.reduceDiv, Int.reduceLT, Int.reduceLE, Int.reduceNeg, Int.reduceBEq, Int.reduceBNe, Int.reduceAdd, Int.reduceSub, Nat.reduceBEq, reduceCtorEq, Nat.reduceMul, TEP, tis, ens, nts, Try.results11, h1, h10, h12, hd, hv, z4, z5, hw, getI hlt]
              refine ⟨⟨by omega, by omega⟩, ⟨by omega, by omega⟩, ⟨rfl, by decide⟩, ⟨by omega, by omega, by omega⟩, .inl ⟨m - 1, by omega, j + 1, by omega, by simp only [sa0.down, sa1.down, sa2.down, sa3.down, sa4.down, sb0.down, sb1.down, sb2.down, sb3.down, ↓reduceIte, Nat.reduceEqDiff, Nat.reduceLT, Nat.reduceLeDiff, Nat.reduceAdd, Nat.reduceSub, Int.reduceToNat, Nat.reduceDiv, Int.reduceLT, Int.reduceLE, Int.reduceNeg, Int.reduceBEq, Int.reduceBNe, Int.reduceAdd, Int.reduceSub, Nat.reduceBEq, reduceCtorEq, Nat.reduceMul, TEP, tis, ens, nts, Try.results11, h1], by simp only [sa0.down, sa1.down, sa2.down, sa3.down, sa4.down, sb0.down, sb1.down, sb2.down, sb3.down, ↓reduceIte, Nat.reduceEqDiff, Nat.reduceLT, Nat.reduceLeDiff, Nat.reduceAdd, Nat.reduceSub, Int.reduceToNat, Nat.reduceDiv, Int.reduceLT, Int.reduceLE, Int.reduceNeg, Int.reduceBEq, Int.reduceBNe, Int.reduceAdd, Int.reduceSub, Nat.reduceBEq, reduceCtorEq, Nat.reduceMul, TEP, tis, ens, nts, Try.results11, h10], by simp only [sa0.down, sa1.down, sa2.down, sa3.down, sa4.down, sb0.down, sb1.down, sb2.down, sb3.down, ↓reduceIte, Nat.reduceEqDiff, Nat.reduceLT, Nat.reduceLeDiff, Nat.reduceAdd, Nat.reduceSub, Int.reduceToNat, Nat.reduceDiv, Int.reduceLT, Int.reduceLE, Int.reduceNeg, Int.reduceBEq, Int.reduceBNe, Int.reduceAdd, Int.reduceSub, Nat.reduceBEq, reduceCtorEq, Nat.reduceMul, TEP, tis, ens, nts, Try.results11], by simp only [sa0.down, sa1.down, sa2.down, sa3.down, sa4.down, sb0.down, sb1.down, sb2.down, sb3.down, ↓reduceIte, Nat.reduceEqDiff, Nat.reduceLT, Nat.reduceLeDiff, Nat.reduceAdd, Nat.reduceSub, Int.reduceToNat, Nat.reduceDiv, Int.reduceLT, Int.reduceLE, Int.reduceNeg, Int.reduceBEq, Int.reduceBNe, Int.reduceAdd, Int.reduceSub, Nat.reduceBEq, reduceCtorEq, Nat.reduceMul, TEP, tis, ens, nts, Try.results11, hd], by rw [z3, List.map_append]; exact .inr ⟨by simp only [sa0.down, sa1.down, sa2.down, sa3.down, sa4.down, sb0.down, sb1.down, sb2.down, sb3.down, ↓reduceIte, Nat.reduceEqDiff, Nat.reduceLT, Nat.reduceLeDiff, Nat.reduceAdd, Nat.reduceSub, Int.reduceToNat, Nat.reduceDiv, Int.reduceLT, Int.reduceLE, Int.reduceNeg, Int.reduceBEq, Int.reduceBNe, Int.reduceAdd, Int.reduceSub, Nat.reduceBEq, reduceCtorEq, Nat.reduceMul, TEP, tis, ens, nts, Try.results11, List.length_append, List.length_map, List.length_singleton], by simp only [sa0.down, sa1.down, sa2.down, sa3.down, sa4.down, sb0.down, sb1.down, sb2.down, sb3.down, ↓reduceIte, Nat.reduceEqDiff, Nat.reduceLT, Nat.reduceLeDiff, Nat.reduceAdd, Nat.reduceSub, Int.reduceToNat, Nat.reduceDiv, Int.reduceLT, Int.reduceLE, Int.reduceNeg, Int.reduceBEq, Int.reduceBNe, Int.reduceAdd, Int.reduceSub, Nat.reduceBEq, reduceCtorEq, Nat.reduceMul, TEP, tis, ens, nts, Try.results11, drops_vi]⟩⟩⟩
          · have hj : j = n := by have := of_decide_eq_false hc; omega
            subst hj
            simp only [sa0.down, sa1.down, sa2.down, sa3.down, sa4.down, sb0.down, sb1.down, sb2.down, sb3.down, ↓reduceIte, Nat.reduceEqDiff, Nat.reduceLT, Nat.reduceLeDiff, Nat.reduceAdd, Nat.reduceSub, Int.reduceToNat, Nat.reduceDiv, Int.reduceLT, Int.reduceLE, Int.reduceNeg, Int.reduceBEq, Int.reduceBNe, Int.reduceAdd, Int.reduceSub, Nat.reduceBEq, reduceCtorEq, Nat.reduceMul, TEP, tis, ens, nts, Try.results11, h1, h10, h12, hd, hv]
            exact Reif.tup (Reifs.cons (Reif.ls rfl (Reifs.dat (dats_vi _)) (fit_vi _) (flat_vi _) (by simp)) (Reifs.dat rfl))

end Go.Proofs.Ytegnjoonhabicaa
