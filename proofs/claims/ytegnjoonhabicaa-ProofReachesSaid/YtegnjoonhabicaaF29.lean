/- Functions of the program, part 29. -/
import Derived.Test.YtegnjoonhabicaaF28
import Derived.Test.YtegnjoonhabicaaA9
set_option linter.unusedVariables false
set_option linter.unusedSimpArgs false
set_option linter.unnecessarySimpa false
namespace Go.Proofs.Ytegnjoonhabicaa
open Go Go.Proofs Go.Abs Go.RowKit

set_option maxHeartbeats 4000000 in
theorem ev_rprune (l : List Cl) (vars : Int) (steps : List Cl) (hn2 : steps.length ≤ 400000) (hl : ∀ c ∈ l, c.length ≤ 1000000) (hc : ∀ c ∈ steps, c.length ≤ 1000000) :
    Ev TE 18 [cls l, vi vars, cls steps] (.tup [cls (pruneV l vars steps).1, vi (pruneV l vars steps).2]) := by
  have hM : maxLen = 9223372036854775807 := rfl
  refine Ev.of_awp Try.func18 rfl (by simp [nts]) (vc_ok mixed _ _ _ _ ?_)
  simp only [sa0.down, sa1.down, sa2.down, sa3.down, sa4.down, sb0.down, sb1.down, sb2.down, sb3.down, ↓reduceIte, Nat.reduceEqDiff, Nat.reduceLT, Nat.reduceLeDiff, Nat.reduceAdd, Nat.reduceSub, Int.reduceToNat, Nat.reduceDiv, Int.reduceLT, Int.reduceLE, Int.reduceNeg, Int.reduceBEq, Int.reduceBNe, Int.reduceAdd, Int.reduceSub, Nat.reduceBEq, reduceCtorEq, Nat.reduceMul, TEP, tis, ens, nts, Try.results18]
  refine ACalls.ev (ev_rcan l vars steps) (by simp only [V.dats, V.dat, dats_cls]; rfl) ?_
  simp only [sa0.down, sa1.down, sa2.down, sa3.down, sa4.down, sb0.down, sb1.down, sb2.down, sb3.down, ↓reduceIte, Nat.reduceEqDiff, Nat.reduceLT, Nat.reduceLeDiff, Nat.reduceAdd, Nat.reduceSub, Int.reduceToNat, Nat.reduceDiv, Int.reduceLT, Int.reduceLE, Int.reduceNeg, Int.reduceBEq, Int.reduceBNe, Int.reduceAdd, Int.reduceSub, Nat.reduceBEq, reduceCtorEq, Nat.reduceMul, TEP, tis, ens, nts, Try.results18]
  refine vcB.mk (fun hq => ?_) (fun hq => ?_)
  · have hq : ask l vars steps ≠ 0 := by simpa using hq
    have h0 : pruneV l vars steps = ([], ask l vars steps) := by unfold pruneV; rw [if_pos hq]
    rw [h0]
    simp only [sa0.down, sa1.down, sa2.down, sa3.down, sa4.down, sb0.down, sb1.down, sb2.down, sb3.down, ↓reduceIte, Nat.reduceEqDiff, Nat.reduceLT, Nat.reduceLeDiff, Nat.reduceAdd, Nat.reduceSub, Int.reduceToNat, Nat.reduceDiv, Int.reduceLT, Int.reduceLE, Int.reduceNeg, Int.reduceBEq, Int.reduceBNe, Int.reduceAdd, Int.reduceSub, Nat.reduceBEq, reduceCtorEq, Nat.reduceMul, TEP, tis, ens, nts, Try.results18]
    exact Reif.tup (Reifs.cons Reif.nils (Reifs.cons (Reif.dat rfl) Reifs.nil))
  · have hq : ask l vars steps = 0 := by simpa using hq
    obtain ⟨n, rfl⟩ : ∃ n : Nat, vars = n := ⟨vars.toNat, by have := (ask_ok hq).2.2.1; omega⟩
    obtain ⟨q1, q2, q3, q4⟩ := ask_litN hq hl hc
    simp only [sa0.down, sa1.down, sa2.down, sa3.down, sa4.down, sb0.down, sb1.down, sb2.down, sb3.down, ↓reduceIte, Nat.reduceEqDiff, Nat.reduceLT, Nat.reduceLeDiff, Nat.reduceAdd, Nat.reduceSub, Int.reduceToNat, Nat.reduceDiv, Int.reduceLT, Int.reduceLE, Int.reduceNeg, Int.reduceBEq, Int.reduceBNe, Int.reduceAdd, Int.reduceSub, Nat.reduceBEq, reduceCtorEq, Nat.reduceMul, TEP, tis, ens, nts, Try.results18]
    refine ACalls.ev (ev_rleads l steps n q1 (by omega) hn2 q3 q4) (by simp only [V.dats, V.dat, dats_cls]; rfl) ?_
    simp only [sa0.down, sa1.down, sa2.down, sa3.down, sa4.down, sb0.down, sb1.down, sb2.down, sb3.down, ↓reduceIte, Nat.reduceEqDiff, Nat.reduceLT, Nat.reduceLeDiff, Nat.reduceAdd, Nat.reduceSub, Int.reduceToNat, Nat.reduceDiv, Int.reduceLT, Int.reduceLE, Int.reduceNeg, Int.reduceBEq, Int.reduceBNe, Int.reduceAdd, Int.reduceSub, Nat.reduceBEq, reduceCtorEq, Nat.reduceMul, TEP, tis, ens, nts, Try.results18]
    refine vcB.mk (fun hb => ?_) (fun hb => ?_)
    · have h0 : pruneV l n steps = ([], 0) := by unfold pruneV; rw [if_neg (by simp [hq]), if_neg (by simpa using hb)]
      rw [h0]
      simp only [sa0.down, sa1.down, sa2.down, sa3.down, sa4.down, sb0.down, sb1.down, sb2.down, sb3.down, ↓reduceIte, Nat.reduceEqDiff, Nat.reduceLT, Nat.reduceLeDiff, Nat.reduceAdd, Nat.reduceSub, Int.reduceToNat, Nat.reduceDiv, Int.reduceLT, Int.reduceLE, Int.reduceNeg, Int.reduceBEq, Int.reduceBNe, Int.reduceAdd, Int.reduceSub, Nat.reduceBEq, reduceCtorEq, Nat.reduceMul, TEP, tis, ens, nts, Try.results18]
      exact Reif.tup (Reifs.cons Reif.nils (Reifs.cons (Reif.dat rfl) Reifs.nil))
    · have h0 : pruneV l n steps = (pruneF l steps.length steps, 0) := by unfold pruneV; rw [if_neg (by simp [hq]), if_pos (by simpa using hb)]
      rw [h0]
      simp only [sa0.down, sa1.down, sa2.down, sa3.down, sa4.down, sb0.down, sb1.down, sb2.down, sb3.down, ↓reduceIte, Nat.reduceEqDiff, Nat.reduceLT, Nat.reduceLeDiff, Nat.reduceAdd, Nat.reduceSub, Int.reduceToNat, Nat.reduceDiv, Int.reduceLT, Int.reduceLE, Int.reduceNeg, Int.reduceBEq, Int.reduceBNe, Int.reduceAdd, Int.reduceSub, Nat.reduceBEq, reduceCtorEq, Nat.reduceMul, TEP, tis, ens, nts, Try.results18, allOne_cls]
      refine ⟨⟨by omega, by omega⟩, ?_⟩
      refine awp_loop (fun m f h => ∃ k left, m = k ∧ k ≤ left.length ∧ left.length ≤ steps.length ∧ pruneF l steps.length steps = pruneF l k left ∧ (∀ c ∈ left, c ∈ steps) ∧ f.t 0 = cls l ∧ f.t 1 = vi n ∧ f.t 10 = vi ((k : Int) - 1) ∧ Reif TE h (f.t 9) (cls left) ∧ f.d = []) steps.length
        ⟨steps.length, steps, rfl, Nat.le_refl _, Nat.le_refl _, rfl, fun c h => h, rfl, rfl, by rw [wrapn (by omega) (by omega)]; rfl, Reif.ls rfl (Reifs.dat (dats_cls _)) (fit_cls _) (flat_cls _) (by simp), rfl⟩ ?_
      rintro m f h ⟨k, left, rfl, hk, hll, hp, hsub, h0', h1, h10, h9, hd⟩
      refine awp_settle 9 (cls left) hd h9 ?_
      refine vc_ok mixed _ _ _ _ ?_
      simp only [sa0.down, sa1.down, sa2.down, sa3.down, sa4.down, sb0.down, sb1.down, sb2.down, sb3.down, ↓reduceIte, Nat.reduceEqDiff, Nat.reduceLT, Nat.reduceLeDiff, Nat.reduceAdd, Nat.reduceSub, Int.reduceToNat, Nat.reduceDiv, Int.reduceLT, Int.reduceLE, Int.reduceNeg, Int.reduceBEq, Int.reduceBNe, Int.reduceAdd, Int.reduceSub, Nat.reduceBEq, reduceCtorEq, Nat.reduceMul, TEP, tis, ens, nts, Try.results18, h0', h1, h10, drops_cls]
      refine vcB.mk (fun hlt => ?_) (fun hlt => ?_)
      · obtain ⟨i, rfl⟩ : ∃ i, m = i + 1 := ⟨m - 1, by simp only [decide_eq_true_eq] at hlt; omega⟩
        have h10 : f.t 10 = vi i := by rw [h10]; congr 1; omega
        have hT : List.take i (List.map (fun c => ints c) left) = (left.take i).map fun c => ints c := by rw [List.map_take]
        have hD : List.drop (i + 1) (List.map (fun c => ints c) left) = (left.drop (i + 1)).map fun c => ints c := by rw [List.map_drop]
        have e5 : List.map (fun c => ints c) (left.take i) ++ List.map (fun c => ints c) (left.drop (i + 1)) = (left.eraseIdx i).map fun c => ints c := by
          rw [List.eraseIdx_eq_take_drop_succ, List.map_append]
        have hel : (left.eraseIdx i).length = left.length - 1 := List.length_eraseIdx_of_lt (by omega)
        have hes : ∀ c ∈ left.eraseIdx i, c ∈ steps := fun c hc => hsub c (List.mem_of_mem_eraseIdx hc)
        have hlt2 : (left.take i).length = i := by rw [List.length_take]; omega
        have hld : (left.drop (i + 1)).length = left.length - (i + 1) := by rw [List.length_drop]
        have hsum : i + (left.length - (i + 1)) = left.length - 1 := by omega
        have hw : IntKind.i64.wrap ((i : Int) - 1) = (i : Int) - 1 := wrapn (by omega) (by omega)
        simp only [sa0.down, sa1.down, sa2.down, sa3.down, sa4.down, sb0.down, sb1.down, sb2.down, sb3.down, ↓reduceIte, Nat.reduceEqDiff, Nat.reduceLT, Nat.reduceLeDiff, Nat.reduceAdd, Nat.reduceSub, Int.reduceToNat, Nat.reduceDiv, Int.reduceLT, Int.reduceLE, Int.reduceNeg, Int.reduceBEq, Int.reduceBNe, Int.reduceAdd, Int.reduceSub, Nat.reduceBEq, reduceCtorEq, Nat.reduceMul, TEP, tis, ens, nts, Try.results18, h0', h1, h10, drops_cls, wrap_succ (show i < maxLen by omega), allOne_cls, hT, hD, hlt2, hld, hsum, e5]
        refine ⟨⟨by omega, by omega⟩, ⟨by omega, by omega⟩, ⟨by omega, by omega⟩, ⟨by omega, by omega, by omega⟩, ?_⟩
        have hrf : Reif TE [.cells ((left.eraseIdx i).map fun c => ints c)] (.ls 0 1 0 (left.length - 1) (left.length - 1)) (cls (left.eraseIdx i)) := Reif.ls rfl (Reifs.dat (dats_cls _)) (fit_cls _) (flat_cls _) (by simp [hel])
        refine ACalls.lend (ev_rleads l (left.eraseIdx i) n q1 (by omega) (by omega) q3 ⟨fun c hc => q4.rng c (hes c hc), fun c hc => q4.len c (hes c hc)⟩) (Reifs.cons (Reif.dat (by simp only [V.dat, dats_cls])) (Reifs.cons (Reif.dat rfl) (Reifs.cons hrf Reifs.nil))) rfl ?_
        cases hL : leadF l (left.eraseIdx i) with
        | true =>
          have hp2 : pruneF l steps.length steps = pruneF l i (left.eraseIdx i) := by rw [hp, pruneF, if_pos hL]
          simp only [sa0.down, sa1.down, sa2.down, sa3.down, sa4.down, sb0.down, sb1.down, sb2.down, sb3.down, ↓reduceIte, Nat.reduceEqDiff, Nat.reduceLT, Nat.reduceLeDiff, Nat.reduceAdd, Nat.reduceSub, Int.reduceToNat, Nat.reduceDiv, Int.reduceLT, Int.reduceLE, Int.reduceNeg, Int.reduceBEq, Int.reduceBNe, Int.reduceAdd, Int.reduceSub, Nat.reduceBEq, reduceCtorEq, Nat.reduceMul, TEP, tis, ens, nts, Try.results18, h0', h1, h10, drops_cls, hw]
          exact .inl ⟨i, by omega, i, left.eraseIdx i, rfl, by omega, by omega, hp2, hes, by simp only [sa0.down, sa1.down, sa2.down, sa3.down, sa4.down, sb0.down, sb1.down, sb2.down, sb3.down, ↓reduceIte, Nat.reduceEqDiff, Nat.reduceLT, Nat.reduceLeDiff, Nat.reduceAdd, Nat.reduceSub, Int.reduceToNat, Nat.reduceDiv, Int.reduceLT, Int.reduceLE, Int.reduceNeg, Int.reduceBEq, Int.reduceBNe, Int.reduceAdd, Int.reduceSub, Nat.reduceBEq, reduceCtorEq, Nat.reduceMul, TEP, tis, ens, nts, Try.results18, h0', drops_cls], by simp only [sa0.down, sa1.down, sa2.down, sa3.down, sa4.down, sb0.down, sb1.down, sb2.down, sb3.down, ↓reduceIte, Nat.reduceEqDiff, Nat.reduceLT, Nat.reduceLeDiff, Nat.reduceAdd, Nat.reduceSub, Int.reduceToNat, Nat.reduceDiv, Int.reduceLT, Int.reduceLE, Int.reduceNeg, Int.reduceBEq, Int.reduceBNe, Int.reduceAdd, Int.reduceSub, Nat.reduceBEq, reduceCtorEq, Nat.reduceMul, TEP, tis, ens, nts, Try.results18, h1], by simp only [sa0.down, sa1.down, sa2.down, sa3.down, sa4.down, sb0.down, sb1.down, sb2.down, sb3.down, ↓reduceIte, Nat.reduceEqDiff, Nat.reduceLT, Nat.reduceLeDiff, Nat.reduceAdd, Nat.reduceSub, Int.reduceToNat, Nat.reduceDiv, Int.reduceLT, Int.reduceLE, Int.reduceNeg, Int.reduceBEq, Int.reduceBNe, Int.reduceAdd, Int.reduceSub, Nat.reduceBEq, reduceCtorEq, Nat.reduceMul, TEP, tis, ens, nts, Try.results18], by simp only [sa0.down, sa1.down, sa2.down, sa3.down, sa4.down, sb0.down, sb1.down, sb2.down, sb3.down, ↓reduceIte, Nat.reduceEqDiff, Nat.reduceLT, Nat.reduceLeDiff, Nat.reduceAdd, Nat.reduceSub, Int.reduceToNat, Nat.reduceDiv, Int.reduceLT, Int.reduceLE, Int.reduceNeg, Int.reduceBEq, Int.reduceBNe, Int.reduceAdd, Int.reduceSub, Nat.reduceBEq, reduceCtorEq, Nat.reduceMul, TEP, tis, ens, nts, Try.results18]; exact hrf, rfl⟩
        | false =>
          have hp2 : pruneF l steps.length steps = pruneF l i left := by rw [hp, pruneF, if_neg (by simp [hL])]
          simp only [sa0.down, sa1.down, sa2.down, sa3.down, sa4.down, sb0.down, sb1.down, sb2.down, sb3.down, ↓reduceIte, Nat.reduceEqDiff, Nat.reduceLT, Nat.reduceLeDiff, Nat.reduceAdd, Nat.reduceSub, Int.reduceToNat, Nat.reduceDiv, Int.reduceLT, Int.reduceLE, Int.reduceNeg, Int.reduceBEq, Int.reduceBNe, Int.reduceAdd, Int.reduceSub, Nat.reduceBEq, reduceCtorEq, Nat.reduceMul, TEP, tis, ens, nts, Try.results18, h0', h1, h10, drops_cls, hw]
          exact .inl ⟨i, by omega, i, left, rfl, by omega, by omega, hp2, hsub, by simp only [sa0.down, sa1.down, sa2.down, sa3.down, sa4.down, sb0.down, sb1.down, sb2.down, sb3.down, ↓reduceIte, Nat.reduceEqDiff, Nat.reduceLT, Nat.reduceLeDiff, Nat.reduceAdd, Nat.reduceSub, Int.reduceToNat, Nat.reduceDiv, Int.reduceLT, Int.reduceLE, Int.reduceNeg, Int.reduceBEq, Int.reduceBNe, Int.reduceAdd, Int.reduceSub, Nat.reduceBEq, reduceCtorEq, Nat.reduceMul, TEP, tis, ens, nts, Try.results18, h0', drops_cls], by simp only [sa0.down, sa1.down, sa2.down, sa3.down, sa4.down, sb0.down, sb1.down, sb2.down, sb3.down, ↓reduceIte, Nat.reduceEqDiff, Nat.reduceLT, Nat.reduceLeDiff, Nat.reduceAdd, Nat.reduceSub, Int.reduceToNat, Nat.reduceDiv, Int.reduceLT, Int.reduceLE, Int.reduceNeg, Int.reduceBEq, Int.reduceBNe, Int.reduceAdd, Int.reduceSub, Nat.reduceBEq, reduceCtorEq, Nat.reduceMul, TEP, tis, ens, nts, Try.results18, h1], by simp only [sa0.down, sa1.down, sa2.down, sa3.down, sa4.down, sb0.down, sb1.down, sb2.down, sb3.down, ↓reduceIte, Nat.reduceEqDiff, Nat.reduceLT, Nat.reduceLeDiff, Nat.reduceAdd, Nat.reduceSub, Int.reduceToNat, Nat.reduceDiv, Int.reduceLT, Int.reduceLE, Int.reduceNeg, Int.reduceBEq, Int.reduceBNe, Int.reduceAdd, Int.reduceSub, Nat.reduceBEq, reduceCtorEq, Nat.reduceMul, TEP, tis, ens, nts, Try.results18], by simp only [sa0.down, sa1.down, sa2.down, sa3.down, sa4.down, sb0.down, sb1.down, sb2.down, sb3.down, ↓reduceIte, Nat.reduceEqDiff, Nat.reduceLT, Nat.reduceLeDiff, Nat.reduceAdd, Nat.reduceSub, Int.reduceToNat, Nat.reduceDiv, Int.reduceLT, Int.reduceLE, Int.reduceNeg, Int.reduceBEq, Int.reduceBNe, Int.reduceAdd, Int.reduceSub, Nat.reduceBEq, reduceCtorEq, Nat.reduceMul, TEP, tis, ens, nts, Try.results18]; exact Reif.dat (by simp only [V.dat, dats_cls]), rfl⟩
      · simp only [decide_eq_false_iff_not] at hlt
        have : m = 0 := by omega
        subst this
        have hp : pruneF l steps.length steps = left := hp
        rw [hp]
        simp only [sa0.down, sa1.down, sa2.down, sa3.down, sa4.down, sb0.down, sb1.down, sb2.down, sb3.down, ↓reduceIte, Nat.reduceEqDiff, Nat.reduceLT, Nat.reduceLeDiff, Nat.reduceAdd, Nat.reduceSub, Int.reduceToNat, Nat.reduceDiv, Int.reduceLT, Int.reduceLE, Int.reduceNeg, Int.reduceBEq, Int.reduceBNe, Int.reduceAdd, Int.reduceSub, Nat.reduceBEq, reduceCtorEq, Nat.reduceMul, TEP, tis, ens, nts, Try.results18, h0', h1, h10, drops_cls]
        exact Reif.tup (Reifs.cons (Reif.dat (by simp only [V.dat, dats_cls])) (Reifs.cons (Reif.dat rfl) Reifs.nil))

end Go.Proofs.Ytegnjoonhabicaa
