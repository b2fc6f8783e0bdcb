/- Functions of the program, part 13. -/
import Derived.Test.YtajcfppemkdomaaF12
set_option linter.unusedVariables false
set_option linter.unusedSimpArgs false
set_option linter.unnecessarySimpa false
namespace Go.Proofs.Ytajcfppemkdomaa
open Go Go.Proofs Go.Abs

theorem ev_SolveAlike (a b : Ans) : Ev TE 5 [a.v, b.v] (.bool true) := by
  refine Ev.bnd fun hb => ?_
  unfold Ans.v at hb ⊢
  refine Ev.of_awp Try.func5 rfl (by simp [nts]) (vc_ok mixed _ _ _ _ ?_)
  simp only [sz.down, ↓reduceIte, Nat.reduceEqDiff, Nat.reduceLT, TEP, ens, nts, Try.results5]
  refine ACalls.ev ev_works rfl ?_
  simp only [sz.down, ↓reduceIte, Nat.reduceEqDiff, Nat.reduceLT, Nat.reduceAdd, TEP, tis, ens]
  refine ACalls.ev (ev_few a.ln 30) (by simp only [V.dats, V.dat, Bool.and_self]) ?_
  simp only [sz.down, ↓reduceIte, Nat.reduceEqDiff, Nat.reduceLT, Nat.reduceAdd, TEP, tis]
  refine effG.ev (q := 8) (vs := [cls b.ln, .int .i64 30]) (by simp only [sz.down, ↓reduceIte]) (by simp only [sz.down, ↓reduceIte]) rfl (fun _ => ev_few b.ln 30) (fun _ => by simp only [V.dats, V.dat, Bool.and_self]) ?_
  simp only [sz.down, ↓reduceIte, Nat.reduceEqDiff, Nat.reduceLT, Nat.reduceLeDiff, Nat.reduceAdd, TEP, tis]
  refine vcB.mk (fun hc => ?_) (fun hc => ?_)
  · simp only [sz.down, ↓reduceIte, Nat.reduceEqDiff, Nat.reduceLT, TEP]
    exact Reif.dat rfl
  · simp only [sz.down, ↓reduceIte, Nat.reduceEqDiff, Nat.reduceLT, Nat.reduceAdd, reduceCtorEq, TEP, tis]
    have of1 := ev_of a
    have of2 := ev_of b
    have rs := ev_rsame a b
    have ss := ev_same a b
    unfold Ans.v at of1 of2 rs ss
    refine ⟨by decide +kernel, vcEv.mk of1 rfl (by simp only [V.dats, V.dat, Bool.and_self]) ?_⟩
    simp only [sz.down, ↓reduceIte, Nat.reduceEqDiff, Nat.reduceLT, Nat.reduceAdd, reduceCtorEq, TEP, tis]
    refine vcEv.mk of2 rfl (by simp only [V.dats, V.dat, Bool.and_self]) ?_
    simp only [sz.down, ↓reduceIte, Nat.reduceEqDiff, Nat.reduceLT]
    refine vcEv.mk rs rfl (by simp only [V.dats, V.dat, Bool.and_self]) ?_
    simp only [sz.down, ↓reduceIte, Nat.reduceEqDiff, Nat.reduceLT, Nat.reduceAdd, reduceCtorEq, TEP, tis, ens]
    refine ACalls.ev ss (by simp only [V.dats, V.dat, Bool.and_self]) ?_
    simp only [sz.down, ↓reduceIte, Nat.reduceEqDiff, Nat.reduceLT, reduceCtorEq, TEP, tis]
    refine Reif.eq rfl ?_
    simp

end Go.Proofs.Ytajcfppemkdomaa

set_option linter.unusedVariables false
set_option linter.unusedSimpArgs false
set_option linter.unnecessarySimpa false
namespace Go.Proofs.Ytajcfppemkdomaa
open Go Go.Proofs Go.Abs

theorem few_len21 {n : Nat} {l : List Cl} (h : fewC n l = true) : l.length ≤ n ∧ ∀ c ∈ l, c.length ≤ 30 := by
  simpa [fewC] using h
theorem anyF_none {l : List Cl} (h : ∀ vs, sat l vs = false) : ∀ k vs, anyF l k vs = false
  | 0, vs => h vs
  | k + 1, vs => by simp only [anyF, anyF_none h k, Bool.or_self]

theorem ev_any21 (l : List Cl) (n : Nat) (hv : n ≤ 20000) (hl : ∀ c ∈ l, ∀ a ∈ c, lit n a = true) : Ev TE 14 [cls l, vi n] (.bool (anyF l n [])) := by
  have h := ev_any l n hv hl n [] (by simp)
  generalize anyF l n [] = A at h ⊢
  refine Ev.of_awp Try.func14 rfl (by simp [nts]) (vc_ok mixed _ _ _ _ ?_)
  simp only [sz.down, ↓reduceIte, Nat.reduceEqDiff, Nat.reduceLT, reduceCtorEq, TEP, ens, nts, Try.results14]
  refine ACalls.lend h (Reifs.cons (Reif.dat datCl) (Reifs.cons Reif.nils (Reifs.cons (Reif.dat rfl) Reifs.nil))) rfl ?_
  simp only [sz.down, ↓reduceIte, Nat.reduceLT, TEP]
  exact Reif.dat rfl

set_option maxHeartbeats 4000000 in
theorem ev_right_ok (l : List Cl) (n : Nat) (budget res : Int) (vals : List Bool) (ln : List Cl) (hn : n ≤ 20000) (hl : ∀ c ∈ l, ∀ a ∈ c, lit n a = true) (ok : SolveOk l n (max budget 0) res vals ln) : Ev TE 13 [cls l, vi n, vi budget, (Ans.mk res vals ln.length ln).v] (.bool true) := by
  obtain ⟨h1, h2, h3, h4, h5⟩ := ok
  have eb : decide (max budget 0 < (ln.length : Int)) = false := decide_eq_false (by omega)
  have e0 : decide ((ln.length : Int) < 0) = false := decide_eq_false (by omega)
  unfold Ans.v
  rcases h5 with ⟨rfl, rfl, hb⟩ | ⟨rfl, hv, hs⟩ | ⟨rfl, rfl, hb⟩
  · refine Ev.of_awp Try.func13 rfl (by simp [nts]) (vc_ok mixed _ _ _ _ ?_)
    simp only [sz.down, ↓reduceIte, Nat.reduceEqDiff, Nat.reduceLT, Nat.reduceLeDiff, Nat.reduceAdd, TEP, tis, nts, Try.results13, pvMax0, eb, e0]
    refine vcB.mk (fun hc => absurd hc (by simp)) (fun _ => ?_)
    simp only [sz.down, ↓reduceIte, Nat.reduceEqDiff, Nat.reduceLT, Nat.reduceLeDiff, Nat.reduceAdd, Int.reduceBEq, reduceCtorEq, TEP, tis]
    exact Reif.dat rfl
  · refine Ev.of_awp Try.func13 rfl (by simp [nts]) (vc_ok mixed _ _ _ _ ?_)
    simp only [sz.down, ↓reduceIte, Nat.reduceEqDiff, Nat.reduceLT, Nat.reduceLeDiff, Nat.reduceAdd, TEP, tis, nts, Try.results13, pvMax0, eb, e0]
    refine vcB.mk (fun hc => absurd hc (by simp)) (fun _ => ?_)
    simp only [sz.down, ↓reduceIte, Nat.reduceEqDiff, Nat.reduceLT, Nat.reduceLeDiff, Nat.reduceAdd, reduceCtorEq, TEP, tis]
    have ev : ((vals.length : Int) == (n : Int)) = true := by rw [hv]; exact beq_self_eq_true _
    refine effG.ev (q := 28) (vs := [cls l, bools vals]) (by simp only [sz.down, ↓reduceIte, Nat.reduceEqDiff, ev]) (by simp only [sz.down, ↓reduceIte, Nat.reduceEqDiff]) rfl (fun _ => ev_all l vals (by omega) (by rw [hv]; exact hl)) (fun _ => by simp only [V.dats, V.dat, Bool.and_self]) ?_
    simp only [sz.down, ↓reduceIte, Nat.reduceEqDiff, Nat.reduceLT, reduceCtorEq, TEP, hs, ev]
    exact Reif.dat rfl
  · refine Ev.of_awp Try.func13 rfl (by simp [nts]) (vc_ok mixed _ _ _ _ ?_)
    simp only [sz.down, ↓reduceIte, Nat.reduceEqDiff, Nat.reduceLT, Nat.reduceLeDiff, Nat.reduceAdd, TEP, tis, nts, Try.results13, pvMax0, eb, e0]
    refine vcB.mk (fun hc => absurd hc (by simp)) (fun _ => ?_)
    simp only [sz.down, ↓reduceIte, Nat.reduceEqDiff, Nat.reduceLT, Nat.reduceLeDiff, Nat.reduceAdd, Int.reduceBEq, reduceCtorEq, TEP, tis]
    have ec : ((ln.length : Int) == max budget 0) = true := by rw [hb]; exact beq_self_eq_true _
    simp only [sz.down, ec]
    exact ⟨fun _ => ⟨rfl, rfl⟩, fun _ => ⟨rfl, rfl⟩, Reif.eq rfl rfl⟩


theorem ev_SolveRight (l : List Cl) (vars budget : Int) : Ev TE 3 [cls l, vi vars, vi budget] (.bool true) := by
  refine Ev.of_awp Try.func3 rfl (by simp [nts]) (vc_ok mixed _ _ _ _ ?_)
  simp only [sz.down, Nat.reduceLT, TEP, ens, nts, Try.results3]
  refine ACalls.ev ev_works rfl ?_
  simp only [sz.down, ↓reduceIte, Nat.reduceLT, reduceCtorEq, TEP, ens]
  refine ACalls.ev (ev_few l 60) (by simp only [V.dats, V.dat, Bool.and_self]) ?_
  simp only [sz.down, ↓reduceIte, Nat.reduceEqDiff, Nat.reduceLT, TEP]
  refine ⟨fun h => ⟨h, fun h2 => by simp [h, h2]⟩, ?_⟩
  refine vcB.mk (fun hc => ?_) (fun hc => ?_)
  · simp only [sz.down, ↓reduceIte, Nat.reduceEqDiff, Nat.reduceLT, TEP]
    exact Reif.dat rfl
  · have hf : fewC 60 l = true := by
      cases h : fewC 60 l
      · simp [h] at hc
      · rfl
    have hv : vars ≤ 8 ∨ 20000 < vars := by
      simp [hf] at hc
      omega
    obtain ⟨f1, f2⟩ := few_len21 hf
    simp only [sz.down, ↓reduceIte, Nat.reduceEqDiff, Nat.reduceLT, reduceCtorEq, TEP, ens]
    refine ACalls.evR (solve_few l vars budget f1 (fun c h => by have := f2 c h; omega) (by omega)) (by simp only [V.dats, V.dat, Bool.and_self]) fun r hr => ?_
    rcases hr with ⟨hz, rfl⟩ | ⟨hz, res, vals, ln, rfl, ok⟩
    · have of1 := ev_of ⟨0, [], 0, []⟩
      have rs := ev_rsame ⟨0, [], 0, []⟩ ⟨0, [], 0, []⟩
      unfold Ans.v at of1 rs
      have hz2 : (chk l vars != 0) = true := by simpa using hz
      simp only [sz.down, ↓reduceIte, Nat.reduceEqDiff, Nat.reduceLT, Nat.reduceAdd, reduceCtorEq, TEP, tis, ens]
      refine ACalls.ev (ev_rcheck l vars) (by simp only [V.dats, V.dat, Bool.and_self]) ?_
      simp only [sz.down, ↓reduceIte, Nat.reduceEqDiff, Nat.reduceLT, TEP]
      refine vcB.mk (fun hc => absurd hc (by simp)) (fun _ => ?_)
      simp only [sz.down, ↓reduceIte, Nat.reduceEqDiff, Nat.reduceLT, Nat.reduceAdd, reduceCtorEq, TEP, tis, ens, hz2]
      refine ACalls.ev of1 rfl ?_
      simp only [sz.down, ↓reduceIte, Nat.reduceEqDiff, Nat.reduceLT, TEP, tis, ens]
      refine ACalls.lend rs (Reifs.cons (Reif.dat rfl) (Reifs.cons (Reif.agg (Reifs.cons (Reif.dat rfl) (Reifs.cons Reif.nils (Reifs.cons (Reif.dat rfl) (Reifs.cons Reif.nils Reifs.nil))))) Reifs.nil)) rfl ?_
      simp only [sz.down, ↓reduceIte, Nat.reduceEqDiff, Nat.reduceLT, reduceCtorEq, TEP]
      exact Reif.eq rfl rfl
    · have of1 := ev_of ⟨res, vals, ln.length, ln⟩
      unfold Ans.v at of1
      obtain ⟨v1, v2, v3, v4⟩ := chk_vars hz
      obtain ⟨n, rfl⟩ : ∃ n : Nat, vars = n := ⟨vars.toNat, by omega⟩
      rw [Int.toNat_natCast] at ok
      have hl := v4
      have hL : Lits l := fun c hc a ha => by
        obtain ⟨g1, g2, g3⟩ := lit_rng (hl c hc a ha)
        omega
      have ri := ev_right_ok l n budget res vals ln (by omega) hl ok
      unfold Ans.v at ri
      have rc := ev_rcheck l n
      rw [hz] at rc
      simp only [sz.down, ↓reduceIte, Nat.reduceEqDiff, Nat.reduceLT, Nat.reduceAdd, reduceCtorEq, TEP, tis, ens]
      refine ACalls.ev rc (by simp only [V.dats, V.dat, Bool.and_self]) ?_
      simp only [sz.down, ↓reduceIte, Nat.reduceEqDiff, Nat.reduceLT, Nat.reduceAdd, Int.reduceBNe, reduceCtorEq, TEP, tis, ens]
      refine ACalls.ev of1 (by simp only [V.dats, V.dat, Bool.and_self]) ?_
      simp only [sz.down, ↓reduceIte, Nat.reduceEqDiff, Nat.reduceLT, TEP, ens]
      refine ACalls.ev ri (by simp only [V.dats, V.dat, Bool.and_self]) ?_
      simp only [sz.down, ↓reduceIte, Nat.reduceEqDiff, Nat.reduceLT, reduceCtorEq, TEP, ens]
      refine ACalls.ev (ev_any21 l n (by omega) hl) (by simp only [V.dats, V.dat, Bool.and_self]) ?_
      simp only [sz.down, ↓reduceIte, Nat.reduceEqDiff, Nat.reduceLT, Nat.reduceLeDiff, Nat.reduceAdd, reduceCtorEq, TEP, tis]
      refine Reif.eq rfl ?_
      by_cases hr : res = 0
      · have hun := ok_unsat ok hr hL (by omega)
        simp [anyF_none hun]
      · simp [hr]

end Go.Proofs.Ytajcfppemkdomaa
