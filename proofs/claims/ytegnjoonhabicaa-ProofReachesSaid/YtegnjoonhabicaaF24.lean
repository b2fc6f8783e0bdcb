/- Functions of the program, part 24. -/
import Derived.Test.YtegnjoonhabicaaF23
set_option linter.unusedVariables false
set_option linter.unusedSimpArgs false
set_option linter.unnecessarySimpa false
namespace Go.Proofs.Ytegnjoonhabicaa
open Go Go.Proofs Go.Abs Go.RowKit

def planL : Plan := .take 0 <| .take 2 <| .alt 1 (.one 3 <| .one 4 <| .one 5 <| .take 6 <| .one 7 <| .fin) (.one 3 (.alt 1 (.one 4 <| .one 5 <| .take 6 <| .one 7 <| .fin) (.one 4 (.one 1 <| .one 5 <| .take 6 <| .one 7 <| .fin))))

theorem leftS_mem (on : Cl) : ∀ (c out : Cl) {x : Int}, x ∈ leftS on out c ↔ x ∈ out ∨ (x ∈ c ∧ hld on (-x) = false)
  | [], out, x => by simp [leftS]
  | a :: c, out, x => by
    show x ∈ leftS on (if (out.contains a || hld on (-a)) = true then out else out ++ [a]) c ↔ _
    rw [leftS_mem]
    split
    · rename_i h
      simp only [Bool.or_eq_true, List.contains_iff_mem] at h
      constructor
      · rintro (h1 | ⟨h1, h2⟩)
        · exact .inl h1
        · exact .inr ⟨List.mem_cons_of_mem _ h1, h2⟩
      · rintro (h1 | ⟨h1, h2⟩)
        · exact .inl h1
        · rcases List.mem_cons.1 h1 with rfl | h1
          · rcases h with h | h
            · exact .inl h
            · rw [h] at h2; cases h2
          · exact .inr ⟨h1, h2⟩
    · rename_i h
      simp only [Bool.or_eq_true, List.contains_iff_mem, not_or, Bool.not_eq_true] at h
      constructor
      · rintro (h1 | ⟨h1, h2⟩)
        · rcases List.mem_append.1 h1 with h1 | h1
          · exact .inl h1
          · have : x = a := by simpa using h1
            subst this
            exact .inr ⟨List.mem_cons_self, h.2⟩
        · exact .inr ⟨List.mem_cons_of_mem _ h1, h2⟩
      · rintro (h1 | ⟨h1, h2⟩)
        · exact .inl (List.mem_append_left _ h1)
        · rcases List.mem_cons.1 h1 with rfl | h1
          · exact .inl (List.mem_append_right _ (by simp))
          · exact .inr ⟨h1, h2⟩
theorem left_mem {on c : Cl} {x : Int} : x ∈ leftR on c ↔ x ∈ c ∧ hld on (-x) = false := by
  unfold leftR
  rw [leftS_mem]
  simp

set_option maxRecDepth 100000 in
set_option maxHeartbeats 2000000 in
theorem ev_one (on : Cl) (bad : Bool) (c : Cl) (hn : on.length ≤ 1000000) (hcl : c.length ≤ 1000000) (hc : ∀ a ∈ c, -(on.length : Int) < a ∧ a < on.length) :
    Ev TE 53 [.agg [ints on, .bool bad], ints c] (.agg [ints (oneR (on, bad) c).1, .bool (oneR (on, bad) c).2]) := by
  have hM : maxLen = 9223372036854775807 := rfl
  have hx := fun x (h : x ∈ leftR on c) => hc x (left_mem.1 h).1
  refine Ev.of_awp Try.func53 rfl (by simp [nts]) (vc_ok mixed _ _ _ _ ?_)
  simp only [sa0.down, sa1.down, sa2.down, sa3.down, sa4.down, sb0.down, sb1.down, sb2.down, sb3.down, ↓reduceIte, Nat.reduceEqDiff, Nat.reduceLT, Nat.reduceLeDiff, Nat.reduceAdd, Nat.reduceSub, Int.reduceToNat, Nat.reduceDiv, Int.reduceLT, Int.reduceLE, Int.reduceNeg, Int.reduceBEq, Int.reduceBNe, Int.reduceAdd, Int.reduceSub, Nat.reduceBEq, reduceCtorEq, Nat.reduceMul, TEP, tis, ens, nts, Try.results53]
  refine ACalls.ev (ev_left on c hn hcl hc) (by simp only [V.dats, V.dat, dats_vi, Bool.and_self]) ?_
  unfold oneR
  generalize leftR on c = L at hx
  match L, hx with
  | [], _ =>
    simp only [sa0.down, sa1.down, sa2.down, sa3.down, sa4.down, sb0.down, sb1.down, sb2.down, sb3.down, ↓reduceIte, Nat.reduceEqDiff, Nat.reduceLT, Nat.reduceLeDiff, Nat.reduceAdd, Nat.reduceSub, Int.reduceToNat, Nat.reduceDiv, Int.reduceLT, Int.reduceLE, Int.reduceNeg, Int.reduceBEq, Int.reduceBNe, Int.reduceAdd, Int.reduceSub, Nat.reduceBEq, reduceCtorEq, Nat.reduceMul, TEP, tis, ens, nts, Try.results53, castz0]
    refine ⟨by decide +kernel, vcEv.no ?_⟩
    simp only [sa0.down, sa1.down, sa2.down, sa3.down, sa4.down, sb0.down, sb1.down, sb2.down, sb3.down, ↓reduceIte, Nat.reduceEqDiff, Nat.reduceLT, Nat.reduceLeDiff, Nat.reduceAdd, Nat.reduceSub, Int.reduceToNat, Nat.reduceDiv, Int.reduceLT, Int.reduceLE, Int.reduceNeg, Int.reduceBEq, Int.reduceBNe, Int.reduceAdd, Int.reduceSub, Nat.reduceBEq, reduceCtorEq, Nat.reduceMul, TEP, tis, ens, nts, Try.results53, castz0]
    exact .agg (.dat (by simp only [V.dats, V.dat, dats_vi, Bool.and_self]))
  | [x], hx =>
    have hx := hx x (by simp)
    have e1 : (((1 : Nat) : Int) == 0) = false := rfl
    have e2 : (((1 : Nat) : Int) == 1) = true := rfl
    simp only [sa0.down, sa1.down, sa2.down, sa3.down, sa4.down, sb0.down, sb1.down, sb2.down, sb3.down, ↓reduceIte, Nat.reduceEqDiff, Nat.reduceLT, Nat.reduceLeDiff, Nat.reduceAdd, Nat.reduceSub, Int.reduceToNat, Nat.reduceDiv, Int.reduceLT, Int.reduceLE, Int.reduceNeg, Int.reduceBEq, Int.reduceBNe, Int.reduceAdd, Int.reduceSub, Nat.reduceBEq, reduceCtorEq, Nat.reduceMul, TEP, tis, ens, nts, Try.results53, castz0, e1, e2, List.map_cons, List.map_nil, List.getD_cons_zero]
    refine ⟨by decide +kernel, ?_⟩
    refine ⟨by omega, vcEv.mk (ev_hold on x (by omega) (by omega)) rfl (by simp only [V.dats, V.dat, dats_vi, Bool.and_self]) ?_⟩
    cases hB : hld on x with
    | true =>
      simp only [sa0.down, sa1.down, sa2.down, sa3.down, sa4.down, sb0.down, sb1.down, sb2.down, sb3.down, ↓reduceIte, Nat.reduceEqDiff, Nat.reduceLT, Nat.reduceLeDiff, Nat.reduceAdd, Nat.reduceSub, Int.reduceToNat, Nat.reduceDiv, Int.reduceLT, Int.reduceLE, Int.reduceNeg, Int.reduceBEq, Int.reduceBNe, Int.reduceAdd, Int.reduceSub, Nat.reduceBEq, reduceCtorEq, Nat.reduceMul, TEP, tis, ens, nts, Try.results53, hB]
      exact .agg (.dat (by simp only [V.dats, V.dat, dats_vi, Bool.and_self]))
    | false =>
      simp only [sa0.down, sa1.down, sa2.down, sa3.down, sa4.down, sb0.down, sb1.down, sb2.down, sb3.down, ↓reduceIte, Nat.reduceEqDiff, Nat.reduceLT, Nat.reduceLeDiff, Nat.reduceAdd, Nat.reduceSub, Int.reduceToNat, Nat.reduceDiv, Int.reduceLT, Int.reduceLE, Int.reduceNeg, Int.reduceBEq, Int.reduceBNe, Int.reduceAdd, Int.reduceSub, Nat.reduceBEq, reduceCtorEq, Nat.reduceMul, TEP, tis, ens, nts, Try.results53, hB]
      refine awp_plan mixed planL (fun f' h' => f'.t 2 = .lp 0 0 ∧ f'.t 4 = .lp 1 0 ∧ f'.d = [] ∧ h' = [O.cells [ints (letR on x), V.bool bad], O.cells [V.nils, V.bool false]]) (by decide +kernel) (by decide +kernel) ?_ ?_
      · simp only [sa0.down, sa1.down, sa2.down, sa3.down, sa4.down, sb0.down, sb1.down, sb2.down, sb3.down, ↓reduceIte, Nat.reduceEqDiff, Nat.reduceLT, Nat.reduceLeDiff, Nat.reduceAdd, Nat.reduceSub, Int.reduceToNat, Nat.reduceDiv, Int.reduceLT, Int.reduceLE, Int.reduceNeg, Int.reduceBEq, Int.reduceBNe, Int.reduceAdd, Int.reduceSub, Nat.reduceBEq, reduceCtorEq, Nat.reduceMul, TEP, tis, ens, nts, Try.results53, planL, e1, e2, List.map_cons, List.map_nil, List.getD_cons_zero]
        refine ⟨⟨by omega, ?_⟩, by omega, ?_, ?_⟩
        · refine ACalls.ev (ev_letr on x hn (by omega) (by omega)) (by simp only [V.dats, V.dat, dats_vi, Bool.and_self]) ?_
          simp only [sa0.down, sa1.down, sa2.down, sa3.down, sa4.down, sb0.down, sb1.down, sb2.down, sb3.down, ↓reduceIte, Nat.reduceEqDiff, Nat.reduceLT, Nat.reduceLeDiff, Nat.reduceAdd, Nat.reduceSub, Int.reduceToNat, Nat.reduceDiv, Int.reduceLT, Int.reduceLE, Int.reduceNeg, Int.reduceBEq, Int.reduceBNe, Int.reduceAdd, Int.reduceSub, Nat.reduceBEq, reduceCtorEq, Nat.reduceMul, TEP, tis, ens, nts, Try.results53]
        · refine ACalls.ev (ev_letr on x hn (by omega) (by omega)) (by simp only [V.dats, V.dat, dats_vi, Bool.and_self]) ?_
          simp only [sa0.down, sa1.down, sa2.down, sa3.down, sa4.down, sb0.down, sb1.down, sb2.down, sb3.down, ↓reduceIte, Nat.reduceEqDiff, Nat.reduceLT, Nat.reduceLeDiff, Nat.reduceAdd, Nat.reduceSub, Int.reduceToNat, Nat.reduceDiv, Int.reduceLT, Int.reduceLE, Int.reduceNeg, Int.reduceBEq, Int.reduceBNe, Int.reduceAdd, Int.reduceSub, Nat.reduceBEq, reduceCtorEq, Nat.reduceMul, TEP, tis, ens, nts, Try.results53]
        · refine ACalls.ev (ev_letr on x hn (by omega) (by omega)) (by simp only [V.dats, V.dat, dats_vi, Bool.and_self]) ?_
          simp only [sa0.down, sa1.down, sa2.down, sa3.down, sa4.down, sb0.down, sb1.down, sb2.down, sb3.down, ↓reduceIte, Nat.reduceEqDiff, Nat.reduceLT, Nat.reduceLeDiff, Nat.reduceAdd, Nat.reduceSub, Int.reduceToNat, Nat.reduceDiv, Int.reduceLT, Int.reduceLE, Int.reduceNeg, Int.reduceBEq, Int.reduceBNe, Int.reduceAdd, Int.reduceSub, Nat.reduceBEq, reduceCtorEq, Nat.reduceMul, TEP, tis, ens, nts, Try.results53]
      · rintro f h ⟨h2, h4, hd, rfl⟩
        simp only [sa0.down, sa1.down, sa2.down, sa3.down, sa4.down, sb0.down, sb1.down, sb2.down, sb3.down, ↓reduceIte, Nat.reduceEqDiff, Nat.reduceLT, Nat.reduceLeDiff, Nat.reduceAdd, Nat.reduceSub, Int.reduceToNat, Nat.reduceDiv, Int.reduceLT, Int.reduceLE, Int.reduceNeg, Int.reduceBEq, Int.reduceBNe, Int.reduceAdd, Int.reduceSub, Nat.reduceBEq, reduceCtorEq, Nat.reduceMul, TEP, tis, ens, nts, Try.results53, h2, h4, hd]
        exact .agg (.dat (by simp only [V.dats, V.dat, dats_vi, Bool.and_self]))
  | x :: y :: L, _ =>
    have e1 : (((L.length + 2 : Nat) : Int) == 0) = false := by simp; omega
    have e2 : (((L.length + 2 : Nat) : Int) == 1) = false := by simp; omega
    simp only [sa0.down, sa1.down, sa2.down, sa3.down, sa4.down, sb0.down, sb1.down, sb2.down, sb3.down, ↓reduceIte, Nat.reduceEqDiff, Nat.reduceLT, Nat.reduceLeDiff, Nat.reduceAdd, Nat.reduceSub, Int.reduceToNat, Nat.reduceDiv, Int.reduceLT, Int.reduceLE, Int.reduceNeg, Int.reduceBEq, Int.reduceBNe, Int.reduceAdd, Int.reduceSub, Nat.reduceBEq, reduceCtorEq, Nat.reduceMul, TEP, tis, ens, nts, Try.results53, castz0, e1, e2]
    refine ⟨by decide +kernel, vcEv.no ?_⟩
    simp only [sa0.down, sa1.down, sa2.down, sa3.down, sa4.down, sb0.down, sb1.down, sb2.down, sb3.down, ↓reduceIte, Nat.reduceEqDiff, Nat.reduceLT, Nat.reduceLeDiff, Nat.reduceAdd, Nat.reduceSub, Int.reduceToNat, Nat.reduceDiv, Int.reduceLT, Int.reduceLE, Int.reduceNeg, Int.reduceBEq, Int.reduceBNe, Int.reduceAdd, Int.reduceSub, Nat.reduceBEq, reduceCtorEq, Nat.reduceMul, TEP, tis, ens, nts, Try.results53, castz0, e1, e2]
    exact .agg (.dat (by simp only [V.dats, V.dat, dats_vi, Bool.and_self]))

end Go.Proofs.Ytegnjoonhabicaa
