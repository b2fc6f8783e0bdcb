/- Functions of the program, part 9. -/
import Derived.Test.YtegnjoonhabicaaF8
set_option linter.unusedVariables false
set_option linter.unusedSimpArgs false
set_option linter.unnecessarySimpa false
namespace Go.Proofs.Ytegnjoonhabicaa
open Go Go.Proofs Go.Abs

/-- What Rup tells. -/
noncomputable def rupV (l : List Cl) (vars : Int) (c : Cl) : Bool × Int := if ask l vars [c] ≠ 0 then (false, ask l vars [c]) else (badB l (negs c), 0)
/-- What Check tells. -/
noncomputable def leadV (l : List Cl) (vars : Int) (steps : List Cl) : Bool × Int := if ask l vars steps ≠ 0 then (false, ask l vars steps) else (leadF l steps, 0)

theorem ask_ok {l : List Cl} {vars : Int} {more : List Cl} (h : ask l vars more = 0) : Lits l ∧ Lits more ∧ 0 ≤ vars ∧ vars ≤ 20000 ∧ l.length ≤ 100000 ∧ chk l vars = 0 ∧ (∀ c ∈ l, ∀ a ∈ c, lit vars a = true) ∧ ∀ c ∈ more, ∀ a ∈ c, lit vars a = true := by
  unfold ask at h
  split at h
  · exact absurd h (by assumption)
  · rename_i hh
    have hz : chk l vars = 0 := by simpa using hh
    split at h
    · rename_i h2
      obtain ⟨h3, h4, h5, h6⟩ := chk_vars hz
      have h7 : ∀ c ∈ more, ∀ a ∈ c, lit vars a = true := by simpa using h2
      refine ⟨fun c hc a ha => ?_, fun c hc a ha => ?_, h3, h4, h5, hz, h6, h7⟩
      · have := lit_rng (h6 c hc a ha); omega
      · have := lit_rng (h7 c hc a ha); omega
    · cases h

theorem ev_Rup (l : List Cl) (vars : Int) (c : Cl) (hc : c.length ≤ 1000000) : Ev TE 13 [cls l, vi vars, ints c] (.tup [.bool (rupV l vars c).1, vi (rupV l vars c).2]) := by
  refine Ev.of_awp Try.func13 rfl (by simp [nts]) (vc_ok mixed _ _ _ _ ?_)
  simp only [sa0.down, sa1.down, sa2.down, sa3.down, sa4.down, sb0.down, sb1.down, sb2.down, sb3.down, ↓reduceIte, Nat.reduceEqDiff, Nat.reduceLT, Nat.reduceLeDiff, Nat.reduceAdd, Nat.reduceSub, Int.reduceToNat, Nat.reduceDiv, Int.reduceLT, Int.reduceLE, Int.reduceNeg, Int.reduceBEq, Int.reduceBNe, Int.reduceAdd, Int.reduceSub, Nat.reduceBEq, reduceCtorEq, Nat.reduceMul, TEP, tis, ens, nts, Try.results13]
  refine ⟨⟨rfl, by decide⟩, ACalls.ev (Ev.le (VLes.cons (VLe.refl _) (VLes.cons (VLe.refl _) (VLes.cons VLe.exact VLes.nil))) (ev_can l vars [c])) (by simp [V.dats, V.dat, dats_cls, dats_vi]) ?_⟩
  simp only [sa0.down, sa1.down, sa2.down, sa3.down, sa4.down, sb0.down, sb1.down, sb2.down, sb3.down, ↓reduceIte, Nat.reduceEqDiff, Nat.reduceLT, Nat.reduceLeDiff, Nat.reduceAdd, Nat.reduceSub, Int.reduceToNat, Nat.reduceDiv, Int.reduceLT, Int.reduceLE, Int.reduceNeg, Int.reduceBEq, Int.reduceBNe, Int.reduceAdd, Int.reduceSub, Nat.reduceBEq, reduceCtorEq, Nat.reduceMul, TEP, tis, ens, nts, Try.results13]
  refine vcB.mk (fun hq => ?_) (fun hq => ?_)
  · have hq : ask l vars [c] ≠ 0 := by simpa using hq
    have h0 : rupV l vars c = (false, ask l vars [c]) := by unfold rupV; rw [if_pos hq]
    simp only [sa0.down, sa1.down, sa2.down, sa3.down, sa4.down, sb0.down, sb1.down, sb2.down, sb3.down, ↓reduceIte, Nat.reduceEqDiff, Nat.reduceLT, Nat.reduceLeDiff, Nat.reduceAdd, Nat.reduceSub, Int.reduceToNat, Nat.reduceDiv, Int.reduceLT, Int.reduceLE, Int.reduceNeg, Int.reduceBEq, Int.reduceBNe, Int.reduceAdd, Int.reduceSub, Nat.reduceBEq, reduceCtorEq, Nat.reduceMul, TEP, tis, ens, nts, Try.results13]
    exact Reif.eq rfl (by rw [h0])
  · have hq : ask l vars [c] = 0 := by simpa using hq
    have h0 : rupV l vars c = (badB l (negs c), 0) := by unfold rupV; rw [if_neg (by simp [hq])]
    obtain ⟨q1, q2, _⟩ := ask_ok hq
    simp only [sa0.down, sa1.down, sa2.down, sa3.down, sa4.down, sb0.down, sb1.down, sb2.down, sb3.down, ↓reduceIte, Nat.reduceEqDiff, Nat.reduceLT, Nat.reduceLeDiff, Nat.reduceAdd, Nat.reduceSub, Int.reduceToNat, Nat.reduceDiv, Int.reduceLT, Int.reduceLE, Int.reduceNeg, Int.reduceBEq, Int.reduceBNe, Int.reduceAdd, Int.reduceSub, Nat.reduceBEq, reduceCtorEq, Nat.reduceMul, TEP, tis, ens, nts, Try.results13]
    refine ACalls.ev (ev_rup l c q1 (q2 c (by simp)) hc) (by simp [V.dats, V.dat, dats_cls, dats_vi]) ?_
    simp only [sa0.down, sa1.down, sa2.down, sa3.down, sa4.down, sb0.down, sb1.down, sb2.down, sb3.down, ↓reduceIte, Nat.reduceEqDiff, Nat.reduceLT, Nat.reduceLeDiff, Nat.reduceAdd, Nat.reduceSub, Int.reduceToNat, Nat.reduceDiv, Int.reduceLT, Int.reduceLE, Int.reduceNeg, Int.reduceBEq, Int.reduceBNe, Int.reduceAdd, Int.reduceSub, Nat.reduceBEq, reduceCtorEq, Nat.reduceMul, TEP, tis, ens, nts, Try.results13]
    exact Reif.eq rfl (by rw [h0])

theorem ev_Check (l : List Cl) (vars : Int) (steps : List Cl) (hn2 : steps.length ≤ 400000) (hc : ∀ c ∈ steps, c.length ≤ 1000000) : Ev TE 15 [cls l, vi vars, cls steps] (.tup [.bool (leadV l vars steps).1, vi (leadV l vars steps).2]) := by
  refine Ev.of_awp Try.func15 rfl (by simp [nts]) (vc_ok mixed _ _ _ _ ?_)
  simp only [sa0.down, sa1.down, sa2.down, sa3.down, sa4.down, sb0.down, sb1.down, sb2.down, sb3.down, ↓reduceIte, Nat.reduceEqDiff, Nat.reduceLT, Nat.reduceLeDiff, Nat.reduceAdd, Nat.reduceSub, Int.reduceToNat, Nat.reduceDiv, Int.reduceLT, Int.reduceLE, Int.reduceNeg, Int.reduceBEq, Int.reduceBNe, Int.reduceAdd, Int.reduceSub, Nat.reduceBEq, reduceCtorEq, Nat.reduceMul, TEP, tis, ens, nts, Try.results15]
  refine ACalls.ev (ev_can l vars steps) (by simp [V.dats, V.dat, dats_cls]) ?_
  simp only [sa0.down, sa1.down, sa2.down, sa3.down, sa4.down, sb0.down, sb1.down, sb2.down, sb3.down, ↓reduceIte, Nat.reduceEqDiff, Nat.reduceLT, Nat.reduceLeDiff, Nat.reduceAdd, Nat.reduceSub, Int.reduceToNat, Nat.reduceDiv, Int.reduceLT, Int.reduceLE, Int.reduceNeg, Int.reduceBEq, Int.reduceBNe, Int.reduceAdd, Int.reduceSub, Nat.reduceBEq, reduceCtorEq, Nat.reduceMul, TEP, tis, ens, nts, Try.results15]
  refine vcB.mk (fun hq => ?_) (fun hq => ?_)
  · have hq : ask l vars steps ≠ 0 := by simpa using hq
    have h0 : leadV l vars steps = (false, ask l vars steps) := by unfold leadV; rw [if_pos hq]
    simp only [sa0.down, sa1.down, sa2.down, sa3.down, sa4.down, sb0.down, sb1.down, sb2.down, sb3.down, ↓reduceIte, Nat.reduceEqDiff, Nat.reduceLT, Nat.reduceLeDiff, Nat.reduceAdd, Nat.reduceSub, Int.reduceToNat, Nat.reduceDiv, Int.reduceLT, Int.reduceLE, Int.reduceNeg, Int.reduceBEq, Int.reduceBNe, Int.reduceAdd, Int.reduceSub, Nat.reduceBEq, reduceCtorEq, Nat.reduceMul, TEP, tis, ens, nts, Try.results15]
    exact Reif.eq rfl (by rw [h0])
  · have hq : ask l vars steps = 0 := by simpa using hq
    have h0 : leadV l vars steps = (leadF l steps, 0) := by unfold leadV; rw [if_neg (by simp [hq])]
    obtain ⟨q1, q2, q3, q4, q5, _⟩ := ask_ok hq
    simp only [sa0.down, sa1.down, sa2.down, sa3.down, sa4.down, sb0.down, sb1.down, sb2.down, sb3.down, ↓reduceIte, Nat.reduceEqDiff, Nat.reduceLT, Nat.reduceLeDiff, Nat.reduceAdd, Nat.reduceSub, Int.reduceToNat, Nat.reduceDiv, Int.reduceLT, Int.reduceLE, Int.reduceNeg, Int.reduceBEq, Int.reduceBNe, Int.reduceAdd, Int.reduceSub, Nat.reduceBEq, reduceCtorEq, Nat.reduceMul, TEP, tis, ens, nts, Try.results15]
    refine ACalls.ev (ev_leads l steps q1 q2 (by omega) hn2 hc) (by simp [V.dats, V.dat, dats_cls]) ?_
    simp only [sa0.down, sa1.down, sa2.down, sa3.down, sa4.down, sb0.down, sb1.down, sb2.down, sb3.down, ↓reduceIte, Nat.reduceEqDiff, Nat.reduceLT, Nat.reduceLeDiff, Nat.reduceAdd, Nat.reduceSub, Int.reduceToNat, Nat.reduceDiv, Int.reduceLT, Int.reduceLE, Int.reduceNeg, Int.reduceBEq, Int.reduceBNe, Int.reduceAdd, Int.reduceSub, Nat.reduceBEq, reduceCtorEq, Nat.reduceMul, TEP, tis, ens, nts, Try.results15]
    exact Reif.eq rfl (by rw [h0])

end Go.Proofs.Ytegnjoonhabicaa
