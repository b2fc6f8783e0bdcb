/- Functions of the program, part 28. -/
import Derived.Test.YtegnjoonhabicaaF27
set_option linter.unusedVariables false
set_option linter.unusedSimpArgs false
set_option linter.unnecessarySimpa false
namespace Go.Proofs.Ytegnjoonhabicaa
open Go Go.Proofs Go.Abs Go.RowKit

theorem LitN.app {l s : List Cl} {vars : Nat} (h1 : LitN l vars) (h2 : LitN s vars) : LitN (l ++ s) vars :=
  ⟨fun c hc => (List.mem_append.1 hc).elim (h1.rng c) (h2.rng c), fun c hc => (List.mem_append.1 hc).elim (h1.len c) (h2.len c)⟩
theorem LitN.take {s : List Cl} {vars i : Nat} (h : LitN s vars) : LitN (s.take i) vars :=
  ⟨fun c hc => h.rng c (List.mem_of_mem_take hc), fun c hc => h.len c (List.mem_of_mem_take hc)⟩

set_option maxHeartbeats 2000000 in
theorem ev_rleads (l steps : List Cl) (vars : Nat) (hv : vars ≤ 20000) (hln : l.length ≤ 400000) (hn2 : steps.length ≤ 400000) (hl : LitN l vars) (hs : LitN steps vars) :
    Ev TE 34 [cls l, vi vars, cls steps] (.bool (leadF l steps)) := by
  have hM : maxLen = 9223372036854775807 := rfl
  refine Ev.of_awp Try.func34 rfl (by simp [nts]) (vc_ok mixed _ _ _ _ ?_)
  simp only [sa0.down, sa1.down, sa2.down, sa3.down, sa4.down, sb0.down, sb1.down, sb2.down, sb3.down, ↓reduceIte, Nat.reduceEqDiff, Nat.reduceLT, Nat.reduceLeDiff, Nat.reduceAdd, Nat.reduceSub, Int.reduceToNat, Nat.reduceDiv, Int.reduceLT, Int.reduceLE, Int.reduceNeg, Int.reduceBEq, Int.reduceBNe, Int.reduceAdd, Int.reduceSub, Nat.reduceBEq, reduceCtorEq, Nat.reduceMul, TEP, tis, ens, nts, Try.results34, allOne_cls]
  refine ⟨⟨by omega, by omega⟩, ?_⟩
  refine awp_loop (fun m f h => ∃ i all, m + i = steps.length ∧ all = l ++ steps.take i ∧ f.t 1 = vi vars ∧ f.t 2 = cls steps ∧ f.t 7 = .ls 0 1 0 all.length all.length ∧ f.t 8 = vi i ∧ f.d = [] ∧ h = [.cells (all.map fun c => ints c)] ∧ leadF l steps = leadF all (steps.drop i)) steps.length ⟨0, l, by simp, by simp, rfl, rfl, rfl, rfl, rfl, rfl, by simp⟩ ?_
  rintro m f h ⟨i, all, hm, hal, h1, h2, h7, h8, hd, rfl, hlead⟩
  have hall : all.length ≤ 800000 := by rw [hal, List.length_append, List.length_take]; omega
  have hla : LitN all vars := by rw [hal]; exact hl.app hs.take
  have hrf : Reif TE [.cells (all.map fun c => ints c)] (.ls 0 1 0 all.length all.length) (cls all) := Reif.ls rfl (Reifs.dat (dats_cls _)) (fit_cls _) (flat_cls _) (by simp)
  refine vc_ok mixed _ _ _ _ ?_
  simp only [sa0.down, sa1.down, sa2.down, sa3.down, sa4.down, sb0.down, sb1.down, sb2.down, sb3.down, ↓reduceIte, Nat.reduceEqDiff, Nat.reduceLT, Nat.reduceLeDiff, Nat.reduceAdd, Nat.reduceSub, Int.reduceToNat, Nat.reduceDiv, Int.reduceLT, Int.reduceLE, Int.reduceNeg, Int.reduceBEq, Int.reduceBNe, Int.reduceAdd, Int.reduceSub, Nat.reduceBEq, reduceCtorEq, Nat.reduceMul, TEP, tis, ens, nts, Try.results34, h1, h2, h7, h8, hd]
  refine vcB.mk (fun hc => ?_) (fun hc => ?_)
  · simp only [decide_eq_true_eq, Int.ofNat_lt] at hc
    have hal2 : all ++ [steps[i]] = l ++ steps.take (i + 1) := by rw [hal, List.take_add_one, List.append_assoc]; simp [hc]
    rw [List.drop_eq_getElem_cons hc, leadF] at hlead
    simp only [sa0.down, sa1.down, sa2.down, sa3.down, sa4.down, sb0.down, sb1.down, sb2.down, sb3.down, ↓reduceIte, Nat.reduceEqDiff, Nat.reduceLT, Nat.reduceLeDiff, Nat.reduceAdd, Nat.reduceSub, Int.reduceToNat, Nat.reduceDiv, Int.reduceLT, Int.reduceLE, Int.reduceNeg, Int.reduceBEq, Int.reduceBNe, Int.reduceAdd, Int.reduceSub, Nat.reduceBEq, reduceCtorEq, Nat.reduceMul, TEP, tis, ens, nts, Try.results34, h1, h2, h7, h8, hd, getC hc]
    refine ⟨⟨by omega, by omega⟩, ACalls.lend (ev_rrup all vars steps[i] hv (by omega) hla (hs.len _ (List.getElem_mem hc)) (hs.rng _ (List.getElem_mem hc))) (Reifs.cons hrf (Reifs.cons (Reif.dat rfl) (Reifs.cons (Reif.dat (by simp only [V.dat, dats_vi])) Reifs.nil))) rfl ?_⟩
    cases hB : badB all (negs steps[i]) with
    | false =>
      rw [hB] at hlead
      simp only [sa0.down, sa1.down, sa2.down, sa3.down, sa4.down, sb0.down, sb1.down, sb2.down, sb3.down, ↓reduceIte, Nat.reduceEqDiff, Nat.reduceLT, Nat.reduceLeDiff, Nat.reduceAdd, Nat.reduceSub, Int.reduceToNat, Nat.reduceDiv, Int.reduceLT, Int.reduceLE, Int.reduceNeg, Int.reduceBEq, Int.reduceBNe, Int.reduceAdd, Int.reduceSub, Nat.reduceBEq, reduceCtorEq, Nat.reduceMul, TEP, tis, ens, nts, Try.results34, h1, h2, h7, h8, hd]
      exact Reif.eq rfl (by rw [hlead]; rfl)
    | true =>
      rw [hB, Bool.true_and] at hlead
      simp only [sa0.down, sa1.down, sa2.down, sa3.down, sa4.down, sb0.down, sb1.down, sb2.down, sb3.down, ↓reduceIte, Nat.reduceEqDiff, Nat.reduceLT, Nat.reduceLeDiff, Nat.reduceAdd, Nat.reduceSub, Int.reduceToNat, Nat.reduceDiv, Int.reduceLT, Int.reduceLE, Int.reduceNeg, Int.reduceBEq, Int.reduceBNe, Int.reduceAdd, Int.reduceSub, Nat.reduceBEq, reduceCtorEq, Nat.reduceMul, TEP, tis, ens, nts, Try.results34, h1, h2, h7, h8, hd, getC hc, wrap_succ (show i < maxLen by omega)]
      refine ⟨⟨by omega, by omega⟩, ⟨rfl, by decide⟩, ⟨by omega, by omega, by omega⟩, .inl ⟨m - 1, by omega, i + 1, all ++ [steps[i]], by omega, hal2, by simp only [sa0.down, sa1.down, sa2.down, sa3.down, sa4.down, sb0.down, sb1.down, sb2.down, sb3.down, ↓reduceIte, Nat.reduceEqDiff, Nat.reduceLT, Nat.reduceLeDiff, Nat.reduceAdd, Nat.reduceSub, Int.reduceToNat, Nat.reduceDiv, Int.reduceLT, Int.reduceLE, Int.reduceNeg, Int.reduceBEq, Int.reduceBNe, Int.reduceAdd, Int.reduceSub, Nat.reduceBEq, reduceCtorEq, Nat.reduceMul, TEP, tis, ens, nts, Try.results34, h1], by simp only [sa0.down, sa1.down, sa2.down, sa3.down, sa4.down, sb0.down, sb1.down, sb2.down, sb3.down, ↓reduceIte, Nat.reduceEqDiff, Nat.reduceLT, Nat.reduceLeDiff, Nat.reduceAdd, Nat.reduceSub, Int.reduceToNat, Nat.reduceDiv, Int.reduceLT, Int.reduceLE, Int.reduceNeg, Int.reduceBEq, Int.reduceBNe, Int.reduceAdd, Int.reduceSub, Nat.reduceBEq, reduceCtorEq, Nat.reduceMul, TEP, tis, ens, nts, Try.results34, h2], by simp only [sa0.down, sa1.down, sa2.down, sa3.down, sa4.down, sb0.down, sb1.down, sb2.down, sb3.down, ↓reduceIte, Nat.reduceEqDiff, Nat.reduceLT, Nat.reduceLeDiff, Nat.reduceAdd, Nat.reduceSub, Int.reduceToNat, Nat.reduceDiv, Int.reduceLT, Int.reduceLE, Int.reduceNeg, Int.reduceBEq, Int.reduceBNe, Int.reduceAdd, Int.reduceSub, Nat.reduceBEq, reduceCtorEq, Nat.reduceMul, TEP, tis, ens, nts, Try.results34, List.length_append, List.length_singleton], by simp only [sa0.down, sa1.down, sa2.down, sa3.down, sa4.down, sb0.down, sb1.down, sb2.down, sb3.down, ↓reduceIte, Nat.reduceEqDiff, Nat.reduceLT, Nat.reduceLeDiff, Nat.reduceAdd, Nat.reduceSub, Int.reduceToNat, Nat.reduceDiv, Int.reduceLT, Int.reduceLE, Int.reduceNeg, Int.reduceBEq, Int.reduceBNe, Int.reduceAdd, Int.reduceSub, Nat.reduceBEq, reduceCtorEq, Nat.reduceMul, TEP, tis, ens, nts, Try.results34], by simp only [sa0.down, sa1.down, sa2.down, sa3.down, sa4.down, sb0.down, sb1.down, sb2.down, sb3.down, ↓reduceIte, Nat.reduceEqDiff, Nat.reduceLT, Nat.reduceLeDiff, Nat.reduceAdd, Nat.reduceSub, Int.reduceToNat, Nat.reduceDiv, Int.reduceLT, Int.reduceLE, Int.reduceNeg, Int.reduceBEq, Int.reduceBNe, Int.reduceAdd, Int.reduceSub, Nat.reduceBEq, reduceCtorEq, Nat.reduceMul, TEP, tis, ens, nts, Try.results34, hd], by simp only [sa0.down, sa1.down, sa2.down, sa3.down, sa4.down, sb0.down, sb1.down, sb2.down, sb3.down, ↓reduceIte, Nat.reduceEqDiff, Nat.reduceLT, Nat.reduceLeDiff, Nat.reduceAdd, Nat.reduceSub, Int.reduceToNat, Nat.reduceDiv, Int.reduceLT, Int.reduceLE, Int.reduceNeg, Int.reduceBEq, Int.reduceBNe, Int.reduceAdd, Int.reduceSub, Nat.reduceBEq, reduceCtorEq, Nat.reduceMul, TEP, tis, ens, nts, Try.results34, List.map_append, drops_cls], hlead⟩⟩
  · simp only [decide_eq_false_iff_not, Int.ofNat_lt] at hc
    rw [List.drop_eq_nil_of_le (by omega), leadF] at hlead
    simp only [sa0.down, sa1.down, sa2.down, sa3.down, sa4.down, sb0.down, sb1.down, sb2.down, sb3.down, ↓reduceIte, Nat.reduceEqDiff, Nat.reduceLT, Nat.reduceLeDiff, Nat.reduceAdd, Nat.reduceSub, Int.reduceToNat, Nat.reduceDiv, Int.reduceLT, Int.reduceLE, Int.reduceNeg, Int.reduceBEq, Int.reduceBNe, Int.reduceAdd, Int.reduceSub, Nat.reduceBEq, reduceCtorEq, Nat.reduceMul, TEP, tis, ens, nts, Try.results34, h1, h2, h7, h8, hd]
    refine ACalls.lend (ev_rrup all vars [] hv (by omega) hla (by simp) (by simp)) (Reifs.cons hrf (Reifs.cons (Reif.dat rfl) (Reifs.cons Reif.nils Reifs.nil))) rfl ?_
    simp only [sa0.down, sa1.down, sa2.down, sa3.down, sa4.down, sb0.down, sb1.down, sb2.down, sb3.down, ↓reduceIte, Nat.reduceEqDiff, Nat.reduceLT, Nat.reduceLeDiff, Nat.reduceAdd, Nat.reduceSub, Int.reduceToNat, Nat.reduceDiv, Int.reduceLT, Int.reduceLE, Int.reduceNeg, Int.reduceBEq, Int.reduceBNe, Int.reduceAdd, Int.reduceSub, Nat.reduceBEq, reduceCtorEq, Nat.reduceMul, TEP, tis, ens, nts, Try.results34, h1, h2, h7, h8, hd]
    exact Reif.eq rfl (by rw [hlead]; rfl)

theorem ask_litN {l more : List Cl} {vars : Nat} (h : ask l vars more = 0) (h1 : ∀ c ∈ l, c.length ≤ 1000000) (h2 : ∀ c ∈ more, c.length ≤ 1000000) : vars ≤ 20000 ∧ l.length ≤ 100000 ∧ LitN l vars ∧ LitN more vars := by
  obtain ⟨q1, q2, q3, q4, q5, q6, q7, q8⟩ := ask_ok h
  refine ⟨by omega, by omega, ⟨fun c hc b hb => ?_, h1⟩, ⟨fun c hc b hb => ?_, h2⟩⟩
  · have := lit_rng (q7 c hc b hb); omega
  · have := lit_rng (q8 c hc b hb); omega

theorem ev_rCheck (l : List Cl) (vars : Int) (steps : List Cl) (hn2 : steps.length ≤ 400000) (hl : ∀ c ∈ l, c.length ≤ 1000000) (hc : ∀ c ∈ steps, c.length ≤ 1000000) : Ev TE 16 [cls l, vi vars, cls steps] (.tup [.bool (leadV l vars steps).1, vi (leadV l vars steps).2]) := by
  refine Ev.of_awp Try.func16 rfl (by simp [nts]) (vc_ok mixed _ _ _ _ ?_)
  simp only [sa0.down, sa1.down, sa2.down, sa3.down, sa4.down, sb0.down, sb1.down, sb2.down, sb3.down, ↓reduceIte, Nat.reduceEqDiff, Nat.reduceLT, Nat.reduceLeDiff, Nat.reduceAdd, Nat.reduceSub, Int.reduceToNat, Nat.reduceDiv, Int.reduceLT, Int.reduceLE, Int.reduceNeg, Int.reduceBEq, Int.reduceBNe, Int.reduceAdd, Int.reduceSub, Nat.reduceBEq, reduceCtorEq, Nat.reduceMul, TEP, tis, ens, nts, Try.results16]
  refine ACalls.ev (ev_rcan l vars steps) (by simp only [V.dats, V.dat, dats_cls]; rfl) ?_
  simp only [sa0.down, sa1.down, sa2.down, sa3.down, sa4.down, sb0.down, sb1.down, sb2.down, sb3.down, ↓reduceIte, Nat.reduceEqDiff, Nat.reduceLT, Nat.reduceLeDiff, Nat.reduceAdd, Nat.reduceSub, Int.reduceToNat, Nat.reduceDiv, Int.reduceLT, Int.reduceLE, Int.reduceNeg, Int.reduceBEq, Int.reduceBNe, Int.reduceAdd, Int.reduceSub, Nat.reduceBEq, reduceCtorEq, Nat.reduceMul, TEP, tis, ens, nts, Try.results16]
  refine vcB.mk (fun hq => ?_) (fun hq => ?_)
  · have hq : ask l vars steps ≠ 0 := by simpa using hq
    have h0 : leadV l vars steps = (false, ask l vars steps) := by unfold leadV; rw [if_pos hq]
    simp only [sa0.down, sa1.down, sa2.down, sa3.down, sa4.down, sb0.down, sb1.down, sb2.down, sb3.down, ↓reduceIte, Nat.reduceEqDiff, Nat.reduceLT, Nat.reduceLeDiff, Nat.reduceAdd, Nat.reduceSub, Int.reduceToNat, Nat.reduceDiv, Int.reduceLT, Int.reduceLE, Int.reduceNeg, Int.reduceBEq, Int.reduceBNe, Int.reduceAdd, Int.reduceSub, Nat.reduceBEq, reduceCtorEq, Nat.reduceMul, TEP, tis, ens, nts, Try.results16]
    exact Reif.eq rfl (by rw [h0])
  · have hq : ask l vars steps = 0 := by simpa using hq
    have h0 : leadV l vars steps = (leadF l steps, 0) := by unfold leadV; rw [if_neg (by simp [hq])]
    obtain ⟨n, rfl⟩ : ∃ n : Nat, vars = n := ⟨vars.toNat, by have := (ask_ok hq).2.2.1; omega⟩
    obtain ⟨q1, q2, q3, q4⟩ := ask_litN hq hl hc
    simp only [sa0.down, sa1.down, sa2.down, sa3.down, sa4.down, sb0.down, sb1.down, sb2.down, sb3.down, ↓reduceIte, Nat.reduceEqDiff, Nat.reduceLT, Nat.reduceLeDiff, Nat.reduceAdd, Nat.reduceSub, Int.reduceToNat, Nat.reduceDiv, Int.reduceLT, Int.reduceLE, Int.reduceNeg, Int.reduceBEq, Int.reduceBNe, Int.reduceAdd, Int.reduceSub, Nat.reduceBEq, reduceCtorEq, Nat.reduceMul, TEP, tis, ens, nts, Try.results16]
    refine ACalls.ev (ev_rleads l steps n q1 (by omega) hn2 q3 q4) (by simp only [V.dats, V.dat, dats_cls]; rfl) ?_
    simp only [sa0.down, sa1.down, sa2.down, sa3.down, sa4.down, sb0.down, sb1.down, sb2.down, sb3.down, ↓reduceIte, Nat.reduceEqDiff, Nat.reduceLT, Nat.reduceLeDiff, Nat.reduceAdd, Nat.reduceSub, Int.reduceToNat, Nat.reduceDiv, Int.reduceLT, Int.reduceLE, Int.reduceNeg, Int.reduceBEq, Int.reduceBNe, Int.reduceAdd, Int.reduceSub, Nat.reduceBEq, reduceCtorEq, Nat.reduceMul, TEP, tis, ens, nts, Try.results16]
    exact Reif.eq rfl (by rw [h0])

end Go.Proofs.Ytegnjoonhabicaa
