/- Functions of the program, part 15. -/
import Derived.Test.YtegnjoonhabicaaF14
set_option linter.unusedVariables false
set_option linter.unusedSimpArgs false
set_option linter.unnecessarySimpa false
namespace Go.Proofs.Ytegnjoonhabicaa
open Go Go.Proofs Go.Abs Go.RowKit

/-- Do values let all clauses hold, of which the first ones are given? -/
def anyF (l : List Cl) : Nat → List Bool → Bool
  | 0, vs => sat l vs
  | k + 1, vs => anyF l k (vs ++ [false]) || anyF l k (vs ++ [true])

theorem allOne_b : ∀ l : List Bool, allOne (l.map V.bool) = true
  | [] => rfl
  | a :: l => by simp only [List.map_cons, allOne, allOne_b l, V.one, V.vc, List.length_singleton]; rfl
theorem dats_b : ∀ l : List Bool, V.dats (l.map V.bool) = true
  | [] => rfl
  | a :: l => by simp only [List.map_cons, V.dats, V.dat, dats_b l, Bool.and_self]
theorem fit_b : ∀ l : List Bool, allFit 1 (l.map V.bool) = true
  | [] => rfl
  | a :: l => by simp only [List.map_cons, allFit, fit_b l, V.fit, V.vc, List.length_singleton]; rfl
theorem flat_b : ∀ l : List Bool, (l.map V.bool).flatMap V.vc = l.map V.bool
  | [] => rfl
  | a :: l => by simp only [List.map_cons, List.flatMap_cons, V.vc, flat_b l]; rfl
theorem drops_b {p : Nat → Bool} : ∀ l : List Bool, V.drops p (l.map V.bool) = l.map V.bool
  | [] => rfl
  | a :: l => by simp only [List.map_cons, V.drops, V.drop, drops_b l]

set_option maxHeartbeats 1000000 in
theorem ev_any (l : List Cl) (vars : Nat) (hv : vars ≤ 20000) (hl : ∀ c ∈ l, ∀ a ∈ c, lit vars a = true) : ∀ (k : Nat) (vs : List Bool), vs.length + k = vars →
    Ev TE 20 [cls l, bools vs, vi vars] (.bool (anyF l k vs))
  | 0, vs, h => by
    have hvs : vs.length = vars := by omega
    refine Ev.of_awp Try.func20 rfl (by simp [nts]) (vc_ok mixed _ _ _ _ ?_)
    simp only [sa0.down, sa1.down, sa2.down, sa3.down, sa4.down, sb0.down, sb1.down, sb2.down, sb3.down, ↓reduceIte, Nat.reduceEqDiff, Nat.reduceLT, Nat.reduceLeDiff, Nat.reduceAdd, Nat.reduceSub, Int.reduceToNat, Nat.reduceDiv, Int.reduceLT, Int.reduceLE, Int.reduceNeg, Int.reduceBEq, Int.reduceBNe, Int.reduceAdd, Int.reduceSub, Nat.reduceBEq, reduceCtorEq, Nat.reduceMul, TEP, tis, ens, nts, Try.results20]
    refine vcB.mk (fun hc => ?_) (fun hc => ?_)
    · simp only [sa0.down, sa1.down, sa2.down, sa3.down, sa4.down, sb0.down, sb1.down, sb2.down, sb3.down, ↓reduceIte, Nat.reduceEqDiff, Nat.reduceLT, Nat.reduceLeDiff, Nat.reduceAdd, Nat.reduceSub, Int.reduceToNat, Nat.reduceDiv, Int.reduceLT, Int.reduceLE, Int.reduceNeg, Int.reduceBEq, Int.reduceBNe, Int.reduceAdd, Int.reduceSub, Nat.reduceBEq, reduceCtorEq, Nat.reduceMul, TEP, tis, ens, nts, Try.results20]
      refine ACalls.ev (ev_all l vs (by omega) (by rw [hvs]; exact hl)) (by simp only [V.dats, V.dat, dats_cls, dats_b, Bool.and_self]) ?_
      simp only [sa0.down, sa1.down, sa2.down, sa3.down, sa4.down, sb0.down, sb1.down, sb2.down, sb3.down, ↓reduceIte, Nat.reduceEqDiff, Nat.reduceLT, Nat.reduceLeDiff, Nat.reduceAdd, Nat.reduceSub, Int.reduceToNat, Nat.reduceDiv, Int.reduceLT, Int.reduceLE, Int.reduceNeg, Int.reduceBEq, Int.reduceBNe, Int.reduceAdd, Int.reduceSub, Nat.reduceBEq, reduceCtorEq, Nat.reduceMul, TEP, tis, ens, nts, Try.results20]
      exact Reif.dat rfl
    · simp only [beq_eq_false_iff_ne, ne_eq, Int.natCast_inj] at hc
      exact absurd hvs hc
  | k + 1, vs, h => by
    have hM : maxLen = 9223372036854775807 := rfl
    have ih1 := ev_any l vars hv hl k (vs ++ [false]) (by simp; omega)
    have ih2 := ev_any l vars hv hl k (vs ++ [true]) (by simp; omega)
    rw [show anyF l (k + 1) vs = (anyF l k (vs ++ [false]) || anyF l k (vs ++ [true])) from rfl]
    generalize anyF l k (vs ++ [false]) = A at ih1 ⊢
    generalize anyF l k (vs ++ [true]) = B at ih2 ⊢
    refine Ev.of_awp Try.func20 rfl (by simp [nts]) (vc_ok mixed _ _ _ _ ?_)
    simp only [sa0.down, sa1.down, sa2.down, sa3.down, sa4.down, sb0.down, sb1.down, sb2.down, sb3.down, ↓reduceIte, Nat.reduceEqDiff, Nat.reduceLT, Nat.reduceLeDiff, Nat.reduceAdd, Nat.reduceSub, Int.reduceToNat, Nat.reduceDiv, Int.reduceLT, Int.reduceLE, Int.reduceNeg, Int.reduceBEq, Int.reduceBNe, Int.reduceAdd, Int.reduceSub, Nat.reduceBEq, reduceCtorEq, Nat.reduceMul, TEP, tis, ens, nts, Try.results20]
    refine vcB.mk (fun hc => ?_) (fun hc => ?_)
    · simp only [beq_iff_eq, Int.natCast_inj] at hc
      omega
    · have e1 : List.map V.bool vs ++ [V.bool false] = (vs ++ [false]).map V.bool := by simp
      have e2 : List.map V.bool vs ++ [V.bool true] = (vs ++ [true]).map V.bool := by simp
      simp only [sa0.down, sa1.down, sa2.down, sa3.down, sa4.down, sb0.down, sb1.down, sb2.down, sb3.down, ↓reduceIte, Nat.reduceEqDiff, Nat.reduceLT, Nat.reduceLeDiff, Nat.reduceAdd, Nat.reduceSub, Int.reduceToNat, Nat.reduceDiv, Int.reduceLT, Int.reduceLE, Int.reduceNeg, Int.reduceBEq, Int.reduceBNe, Int.reduceAdd, Int.reduceSub, Nat.reduceBEq, reduceCtorEq, Nat.reduceMul, TEP, tis, ens, nts, Try.results20, allOne_b, drops_b]
      rw [e1]
      refine ⟨⟨by omega, by omega⟩, ⟨by omega, by omega⟩, ⟨rfl, by decide⟩, ⟨by omega, by omega, by omega⟩, ACalls.lend ih1 (Reifs.cons (Reif.dat (by simp only [V.dat, dats_cls])) (Reifs.cons (Reif.ls rfl (Reifs.dat (dats_b _)) (fit_b _) (flat_b _) (by simp)) (Reifs.cons (Reif.dat rfl) Reifs.nil))) rfl ?_⟩
      cases A with
      | true =>
        simp only [sa0.down, sa1.down, sa2.down, sa3.down, sa4.down, sb0.down, sb1.down, sb2.down, sb3.down, ↓reduceIte, Nat.reduceEqDiff, Nat.reduceLT, Nat.reduceLeDiff, Nat.reduceAdd, Nat.reduceSub, Int.reduceToNat, Nat.reduceDiv, Int.reduceLT, Int.reduceLE, Int.reduceNeg, Int.reduceBEq, Int.reduceBNe, Int.reduceAdd, Int.reduceSub, Nat.reduceBEq, reduceCtorEq, Nat.reduceMul, TEP, tis, ens, nts, Try.results20, allOne_b, drops_b]
        exact ⟨.bool true, .bool true, trivial, Reif.eq rfl rfl⟩
      | false =>
        simp only [sa0.down, sa1.down, sa2.down, sa3.down, sa4.down, sb0.down, sb1.down, sb2.down, sb3.down, ↓reduceIte, Nat.reduceEqDiff, Nat.reduceLT, Nat.reduceLeDiff, Nat.reduceAdd, Nat.reduceSub, Int.reduceToNat, Nat.reduceDiv, Int.reduceLT, Int.reduceLE, Int.reduceNeg, Int.reduceBEq, Int.reduceBNe, Int.reduceAdd, Int.reduceSub, Nat.reduceBEq, reduceCtorEq, Nat.reduceMul, TEP, tis, ens, nts, Try.results20, allOne_b, drops_b]
        rw [e2]
        refine ⟨⟨rfl, by decide⟩, ⟨by omega, by omega, by omega⟩, ACalls.lend ih2 (Reifs.cons (Reif.dat (by simp only [V.dat, dats_cls])) (Reifs.cons (Reif.ls rfl (Reifs.dat (dats_b _)) (fit_b _) (flat_b _) (by simp)) (Reifs.cons (Reif.dat rfl) Reifs.nil))) rfl ?_⟩
        simp only [sa0.down, sa1.down, sa2.down, sa3.down, sa4.down, sb0.down, sb1.down, sb2.down, sb3.down, ↓reduceIte, Nat.reduceEqDiff, Nat.reduceLT, Nat.reduceLeDiff, Nat.reduceAdd, Nat.reduceSub, Int.reduceToNat, Nat.reduceDiv, Int.reduceLT, Int.reduceLE, Int.reduceNeg, Int.reduceBEq, Int.reduceBNe, Int.reduceAdd, Int.reduceSub, Nat.reduceBEq, reduceCtorEq, Nat.reduceMul, TEP, tis, ens, nts, Try.results20, allOne_b, drops_b]
        exact Reif.dat rfl

/-! ### What follows holds -/
theorem hol_neg {vs : List Bool} {a : Int} (h : a ≠ 0) : hol vs (-a) = !hol vs a := by
  unfold hol
  by_cases h0 : a < 0
  · rw [if_neg (by omega), if_pos h0, Bool.not_not]
  · rw [if_pos (by omega), if_neg h0, Int.neg_neg]

theorem der_hol {l : List Cl} {given : Cl} {vs : List Bool} (hl : Lits l) (hs : sat l vs = true) (hg : ∀ a ∈ given, hol vs a = true) : ∀ a, Der l given a → hol vs a = true := by
  intro a h
  induction h with
  | start a h => exact hg a h
  | unit c a h1 h2 h3 ih =>
    have hc : c.any (hol vs) = true := List.all_eq_true.1 hs c h1
    obtain ⟨b, hb, hb2⟩ := List.any_eq_true.1 hc
    by_cases hba : b = a
    · subst hba; exact hb2
    · have := ih b hb hba
      rw [hol_neg (hl c h1 b hb).2.2, hb2] at this
      cases this

theorem bad_hol {l : List Cl} {given : Cl} {vs : List Bool} (hl : Lits l) (hr : ∀ a ∈ given, a ≠ 0) (hs : sat l vs = true) (hb : Bad l given) : ¬ ∀ a ∈ given, hol vs a = true := by
  intro hg
  rcases hb with ⟨c, h1, h2⟩ | ⟨a, h1, h2⟩
  · have hc : c.any (hol vs) = true := List.all_eq_true.1 hs c h1
    obtain ⟨b, hb, hb2⟩ := List.any_eq_true.1 hc
    have := der_hol hl hs hg _ (h2 b hb)
    rw [hol_neg (hl c h1 b hb).2.2, hb2] at this
    cases this
  · have g1 := der_hol hl hs hg _ h1
    have g2 := der_hol hl hs hg _ h2
    have hz : a ≠ 0 := by
      cases h1 with
      | start _ h => exact hr a h
      | unit c _ h1 h2 _ => exact (hl c h1 a h2).2.2
    rw [hol_neg hz, g1] at g2
    cases g2

theorem of_badB {l : List Cl} {given : Cl} (h : badB l given = true) : Bad l given := by simpa [badB] using h
theorem not_badB {l : List Cl} {given : Cl} (h : badB l given = false) : ¬ Bad l given := by simpa [badB] using h

/-- A clause that follows holds wherever the clauses do. -/
theorem rup_hol {l : List Cl} {c : Cl} {vs : List Bool} (hl : Lits l) (hr : ∀ b ∈ c, -20000 ≤ b ∧ b ≤ 20000 ∧ b ≠ 0) (hs : sat l vs = true) (hb : badB l (negs c) = true) : c.any (hol vs) = true := by
  have h1 := bad_hol hl (fun a ha => (negs_rng hr a ha).2.2) hs (of_badB hb)
  rw [List.any_eq_true]
  apply Classical.byContradiction
  intro hn
  apply h1
  intro a ha
  obtain ⟨b, hb, rfl⟩ := List.mem_map.1 ha
  rw [hol_neg (hr b hb).2.2]
  cases h : hol vs b with
  | false => rfl
  | true => exact absurd ⟨b, hb, h⟩ hn

theorem leads_unsat : ∀ {s all : List Cl} {vs : List Bool}, Lits all → Lits s → leadF all s = true → sat all vs = false
  | [], all, vs, h1, _, h => by
    unfold leadF at h
    cases hs : sat all vs with
    | false => rfl
    | true => exact absurd (by simp) (bad_hol h1 (by simp) hs (of_badB h))
  | c :: s, all, vs, h1, h2, h => by
    unfold leadF at h
    rw [Bool.and_eq_true] at h
    have hc := h2 c (by simp)
    have hb : Lits (all ++ [c]) := h1.app (fun x hx => by
      have : x = c := by simpa using hx
      subst this; exact hc)
    have ih := leads_unsat (vs := vs) hb (fun x hx => h2 x (by simp [hx])) h.2
    cases hs : sat all vs with
    | false => rfl
    | true =>
      have h3 := rup_hol h1 hc hs h.1
      have : sat (all ++ [c]) vs = true := by
        unfold sat at hs ⊢
        rw [List.all_append, hs]
        simp [h3]
      rw [this] at ih; cases ih

theorem any_none {l : List Cl} (h : ∀ vs, sat l vs = false) : ∀ (k : Nat) (vs : List Bool), anyF l k vs = false
  | 0, vs => h vs
  | k + 1, vs => by unfold anyF; rw [any_none h k, any_none h k]; rfl

end Go.Proofs.Ytegnjoonhabicaa
