/- Functions of the program, part 19. -/
import Derived.Test.YtegnjoonhabicaaF18
import Derived.Test.YtegnjoonhabicaaA31
set_option linter.unusedVariables false
set_option linter.unusedSimpArgs false
set_option linter.unnecessarySimpa false
namespace Go.Proofs.Ytegnjoonhabicaa
open Go Go.Proofs Go.Abs Go.RowKit

theorem pruneV_sub {l : List Cl} {vars : Int} {steps : List Cl} : (∀ c ∈ (pruneV l vars steps).1, c ∈ steps) ∧ (pruneV l vars steps).1.length ≤ steps.length := by
  unfold pruneV
  split
  · simp
  · split
    · rename_i h
      exact ⟨(prune_all h).1, pruneF_len l _ _⟩
    · simp

theorem rupV_more {l l' : List Cl} {c c' : Cl} {vars : Int} (hl : ∀ x ∈ l, x ∈ l') (hc : ∀ a ∈ c, a ∈ c') : ((rupV l vars c).2 == 0 && (rupV l' vars c').2 == 0 && (rupV l vars c).1 && !(rupV l' vars c').1) = false := by
  unfold rupV
  split
  · rename_i h
    have : (ask l vars [c] == 0) = false := by simpa using h
    simp [this]
  · split
    · rename_i h
      have : (ask l' vars [c'] == 0) = false := by simpa using h
      simp [this]
    · cases hb : badB l (negs c) with
      | false => simp
      | true =>
        have := badB_more hl (g' := negs c') (fun a ha => by
          obtain ⟨b, hb, rfl⟩ := List.mem_map.1 ha
          exact List.mem_map.2 ⟨b, hc b hb, rfl⟩) hb
        simp [this]
theorem rupV_own {l : List Cl} {c d : Cl} {vars : Int} : ((rupV (l ++ [d]) vars (d ++ c)).2 == 0 && !(rupV (l ++ [d]) vars (d ++ c)).1) = false := by
  unfold rupV
  split
  · rename_i h
    have : (ask (l ++ [d]) vars [d ++ c] == 0) = false := by simpa using h
    simp [this]
  · have : badB (l ++ [d]) (negs (d ++ c)) = true := badB_true (.inl ⟨d, by simp, fun b hb => .start _ (List.mem_map.2 ⟨b, by simp [hb], rfl⟩)⟩)
    simp [this]

theorem castz : ((0 : Nat) : Int) = 0 := rfl

def planM : Plan := .take 1 <| .take 2 <| .take 5 <| .take 6 <| .alt 0 (.alt 3 (.alt 4 (.one 7 <| .one 8 <| .one 9 <| .take 10 <| .fin) (.one 7 (.alt 4 (.one 8 <| .one 9 <| .take 10 <| .fin) (.one 8 (.one 4 <| .one 9 <| .take 10 <| .fin))))) (.one 7 (.alt 3 (.alt 4 (.one 8 <| .one 9 <| .take 10 <| .fin) (.one 8 (.one 4 <| .one 9 <| .take 10 <| .fin))) (.one 8 (.one 3 <| .one 4 <| .one 9 <| .take 10 <| .fin))))) (.alt 3 (.alt 0 (.alt 4 (.one 7 <| .one 8 <| .one 9 <| .take 10 <| .fin) (.one 7 (.alt 4 (.one 8 <| .one 9 <| .take 10 <| .fin) (.one 8 (.one 4 <| .one 9 <| .take 10 <| .fin))))) (.one 7 (.alt 0 (.alt 4 (.one 8 <| .one 9 <| .take 10 <| .fin) (.one 8 (.one 4 <| .one 9 <| .take 10 <| .fin))) (.one 8 (.one 0 <| .one 4 <| .one 9 <| .take 10 <| .fin))))) (.one 7 (.alt 0 (.alt 3 (.alt 4 (.one 8 <| .one 9 <| .take 10 <| .fin) (.one 8 (.one 4 <| .one 9 <| .take 10 <| .fin))) (.one 8 (.one 3 <| .one 4 <| .one 9 <| .take 10 <| .fin))) (.alt 3 (.alt 0 (.alt 4 (.one 8 <| .one 9 <| .take 10 <| .fin) (.one 8 (.one 4 <| .one 9 <| .take 10 <| .fin))) (.one 8 (.one 0 <| .one 4 <| .one 9 <| .take 10 <| .fin))) (.one 8 (.alt 0 (.one 3 <| .one 4 <| .one 9 <| .take 10 <| .fin) (.one 3 (.one 0 <| .one 4 <| .one 9 <| .take 10 <| .fin))))))))

set_option maxRecDepth 100000 in
set_option maxHeartbeats 8000000 in
theorem ev_more (l more : List Cl) (vars : Int) (c d : Cl) (steps : List Cl) : Ev TE 6 [cls l, cls more, vi vars, ints c, ints d, cls steps] (.bool true) := by
  refine Ev.bnd fun hb => ?_
  have hM : maxLen = 9223372036854775807 := rfl
  refine Ev.of_awp Try.func6 rfl (by simp [nts]) (vc_ok mixed _ _ _ _ ?_)
  simp only [sa0.down, sa1.down, sa2.down, sa3.down, sa4.down, sb0.down, sb1.down, sb2.down, sb3.down, ↓reduceIte, Nat.reduceEqDiff, Nat.reduceLT, Nat.reduceLeDiff, Nat.reduceAdd, Nat.reduceSub, Int.reduceToNat, Nat.reduceDiv, Int.reduceLT, Int.reduceLE, Int.reduceNeg, Int.reduceBEq, Int.reduceBNe, Int.reduceAdd, Int.reduceSub, Nat.reduceBEq, reduceCtorEq, Nat.reduceMul, TEP, tis, ens, nts, Try.results6]
  refine ACalls.ev ev_works rfl ?_
  simp only [sa0.down, sa1.down, sa2.down, sa3.down, sa4.down, sb0.down, sb1.down, sb2.down, sb3.down, ↓reduceIte, Nat.reduceEqDiff, Nat.reduceLT, Nat.reduceLeDiff, Nat.reduceAdd, Nat.reduceSub, Int.reduceToNat, Nat.reduceDiv, Int.reduceLT, Int.reduceLE, Int.reduceNeg, Int.reduceBEq, Int.reduceBNe, Int.reduceAdd, Int.reduceSub, Nat.reduceBEq, reduceCtorEq, Nat.reduceMul, TEP, tis, ens, nts, Try.results6]
  refine ACalls.ev (ev_few l 20) (by simp only [V.dats, datC]; rfl) ?_
  simp only [sa0.down, sa1.down, sa2.down, sa3.down, sa4.down, sb0.down, sb1.down, sb2.down, sb3.down, ↓reduceIte, Nat.reduceEqDiff, Nat.reduceLT, Nat.reduceLeDiff, Nat.reduceAdd, Nat.reduceSub, Int.reduceToNat, Nat.reduceDiv, Int.reduceLT, Int.reduceLE, Int.reduceNeg, Int.reduceBEq, Int.reduceBNe, Int.reduceAdd, Int.reduceSub, Nat.reduceBEq, reduceCtorEq, Nat.reduceMul, TEP, tis, ens, nts, Try.results6]
  refine effG.ev (q := 9) (vs := [cls more, .int .i64 10]) (by simp only [sa0.down, sa1.down, sa2.down, sa3.down, sa4.down, sb0.down, sb1.down, sb2.down, sb3.down, ↓reduceIte, Nat.reduceEqDiff, Nat.reduceLT, Nat.reduceLeDiff, Nat.reduceAdd, Nat.reduceSub, Int.reduceToNat, Nat.reduceDiv, Int.reduceLT, Int.reduceLE, Int.reduceNeg, Int.reduceBEq, Int.reduceBNe, Int.reduceAdd, Int.reduceSub, Nat.reduceBEq, reduceCtorEq, Nat.reduceMul, TEP, tis, ens, nts, Try.results6]) (by simp only [sa0.down, sa1.down, sa2.down, sa3.down, sa4.down, sb0.down, sb1.down, sb2.down, sb3.down, ↓reduceIte, Nat.reduceEqDiff, Nat.reduceLT, Nat.reduceLeDiff, Nat.reduceAdd, Nat.reduceSub, Int.reduceToNat, Nat.reduceDiv, Int.reduceLT, Int.reduceLE, Int.reduceNeg, Int.reduceBEq, Int.reduceBNe, Int.reduceAdd, Int.reduceSub, Nat.reduceBEq, reduceCtorEq, Nat.reduceMul, TEP, tis, ens, nts, Try.results6]) rfl (fun _ => ev_few more 10) (fun _ => by simp only [V.dats, datC]; rfl) ?_
  simp only [sa0.down, sa1.down, sa2.down, sa3.down, sa4.down, sb0.down, sb1.down, sb2.down, sb3.down, ↓reduceIte, Nat.reduceEqDiff, Nat.reduceLT, Nat.reduceLeDiff, Nat.reduceAdd, Nat.reduceSub, Int.reduceToNat, Nat.reduceDiv, Int.reduceLT, Int.reduceLE, Int.reduceNeg, Int.reduceBEq, Int.reduceBNe, Int.reduceAdd, Int.reduceSub, Nat.reduceBEq, reduceCtorEq, Nat.reduceMul, TEP, tis, ens, nts, Try.results6]
  refine effG.ev (q := 9) (vs := [cls steps, .int .i64 10]) (by simp only [sa0.down, sa1.down, sa2.down, sa3.down, sa4.down, sb0.down, sb1.down, sb2.down, sb3.down, ↓reduceIte, Nat.reduceEqDiff, Nat.reduceLT, Nat.reduceLeDiff, Nat.reduceAdd, Nat.reduceSub, Int.reduceToNat, Nat.reduceDiv, Int.reduceLT, Int.reduceLE, Int.reduceNeg, Int.reduceBEq, Int.reduceBNe, Int.reduceAdd, Int.reduceSub, Nat.reduceBEq, reduceCtorEq, Nat.reduceMul, TEP, tis, ens, nts, Try.results6]) (by simp only [sa0.down, sa1.down, sa2.down, sa3.down, sa4.down, sb0.down, sb1.down, sb2.down, sb3.down, ↓reduceIte, Nat.reduceEqDiff, Nat.reduceLT, Nat.reduceLeDiff, Nat.reduceAdd, Nat.reduceSub, Int.reduceToNat, Nat.reduceDiv, Int.reduceLT, Int.reduceLE, Int.reduceNeg, Int.reduceBEq, Int.reduceBNe, Int.reduceAdd, Int.reduceSub, Nat.reduceBEq, reduceCtorEq, Nat.reduceMul, TEP, tis, ens, nts, Try.results6]) rfl (fun _ => ev_few steps 10) (fun _ => by simp only [V.dats, datC]; rfl) ?_
  simp only [sa0.down, sa1.down, sa2.down, sa3.down, sa4.down, sb0.down, sb1.down, sb2.down, sb3.down, ↓reduceIte, Nat.reduceEqDiff, Nat.reduceLT, Nat.reduceLeDiff, Nat.reduceAdd, Nat.reduceSub, Int.reduceToNat, Nat.reduceDiv, Int.reduceLT, Int.reduceLE, Int.reduceNeg, Int.reduceBEq, Int.reduceBNe, Int.reduceAdd, Int.reduceSub, Nat.reduceBEq, reduceCtorEq, Nat.reduceMul, TEP, tis, ens, nts, Try.results6]
  refine vcB.mk (fun hc => ?_) (fun hc => ?_)
  · simp only [sa0.down, sa1.down, sa2.down, sa3.down, sa4.down, sb0.down, sb1.down, sb2.down, sb3.down, ↓reduceIte, Nat.reduceEqDiff, Nat.reduceLT, Nat.reduceLeDiff, Nat.reduceAdd, Nat.reduceSub, Int.reduceToNat, Nat.reduceDiv, Int.reduceLT, Int.reduceLE, Int.reduceNeg, Int.reduceBEq, Int.reduceBNe, Int.reduceAdd, Int.reduceSub, Nat.reduceBEq, reduceCtorEq, Nat.reduceMul, TEP, tis, ens, nts, Try.results6]
    exact Reif.dat rfl
  · simp only [Bool.or_eq_false_iff, Bool.not_eq_false', Bool.and_eq_true, decide_eq_false_iff_not] at hc
    obtain ⟨⟨⟨⟨⟨f1, f2⟩, f3⟩, v1⟩, v2⟩, v3⟩ := hc
    obtain ⟨n1, n2⟩ := few_len f1
    obtain ⟨n3, n4⟩ := few_len f2
    obtain ⟨n5, n6⟩ := few_len f3
    have hcl : c.length ≤ 20 := by omega
    have hdl : d.length ≤ 20 := by omega
    have e1 : (List.map (fun c => ints c) l ++ List.map (fun c => ints c) more) = (l ++ more).map fun c => ints c := by simp
    have e2 : (List.map vi c ++ List.map vi d) = (c ++ d).map vi := by simp
    have e3 : (List.map (fun c => ints c) l ++ [ints d]) = (l ++ [d]).map fun c => ints c := by simp
    have e4 : (List.map vi d ++ List.map vi c) = (d ++ c).map vi := by simp
    simp only [sa0.down, sa1.down, sa2.down, sa3.down, sa4.down, sb0.down, sb1.down, sb2.down, sb3.down, ↓reduceIte, Nat.reduceEqDiff, Nat.reduceLT, Nat.reduceLeDiff, Nat.reduceAdd, Nat.reduceSub, Int.reduceToNat, Nat.reduceDiv, Int.reduceLT, Int.reduceLE, Int.reduceNeg, Int.reduceBEq, Int.reduceBNe, Int.reduceAdd, Int.reduceSub, Nat.reduceBEq, reduceCtorEq, Nat.reduceMul, TEP, tis, ens, nts, Try.results6]
    refine ACalls.ev (ev_Rup l vars c (by omega)) (by simp only [V.dats, datC, datI]; rfl) ?_
    simp only [sa0.down, sa1.down, sa2.down, sa3.down, sa4.down, sb0.down, sb1.down, sb2.down, sb3.down, ↓reduceIte, Nat.reduceEqDiff, Nat.reduceLT, Nat.reduceLeDiff, Nat.reduceAdd, Nat.reduceSub, Int.reduceToNat, Nat.reduceDiv, Int.reduceLT, Int.reduceLE, Int.reduceNeg, Int.reduceBEq, Int.reduceBNe, Int.reduceAdd, Int.reduceSub, Nat.reduceBEq, reduceCtorEq, Nat.reduceMul, TEP, tis, ens, nts, Try.results6, allOne_cls, drops_cls, drops_vi, allOne_vi]
    rw [e1]
    refine ⟨⟨rfl, by decide⟩, ⟨by omega, by omega⟩, ⟨by omega, by omega, by omega⟩, ACalls.lend (ev_Rup (l ++ more) vars c (by omega)) (Reifs.cons (Reif.ls rfl (Reifs.dat (dats_cls _)) (fit_cls _) (flat_cls _) (by simp)) (Reifs.cons (Reif.dat rfl) (Reifs.cons (Reif.dat datI) Reifs.nil))) rfl ?_⟩
    simp only [sa0.down, sa1.down, sa2.down, sa3.down, sa4.down, sb0.down, sb1.down, sb2.down, sb3.down, ↓reduceIte, Nat.reduceEqDiff, Nat.reduceLT, Nat.reduceLeDiff, Nat.reduceAdd, Nat.reduceSub, Int.reduceToNat, Nat.reduceDiv, Int.reduceLT, Int.reduceLE, Int.reduceNeg, Int.reduceBEq, Int.reduceBNe, Int.reduceAdd, Int.reduceSub, Nat.reduceBEq, reduceCtorEq, Nat.reduceMul, TEP, tis, ens, nts, Try.results6, allOne_cls, drops_cls, drops_vi, allOne_vi]
    rw [e2]
    refine ⟨⟨rfl, by decide⟩, ⟨by omega, by omega⟩, ⟨by omega, by omega, by omega⟩, ACalls.lend (ev_Rup l vars (c ++ d) (by simp; omega)) (Reifs.cons (Reif.dat datC) (Reifs.cons (Reif.dat rfl) (Reifs.cons (Reif.ls rfl (Reifs.dat (dats_vi _)) (fit_vi _) (flat_vi _) (by simp)) Reifs.nil))) rfl ?_⟩
    simp only [sa0.down, sa1.down, sa2.down, sa3.down, sa4.down, sb0.down, sb1.down, sb2.down, sb3.down, ↓reduceIte, Nat.reduceEqDiff, Nat.reduceLT, Nat.reduceLeDiff, Nat.reduceAdd, Nat.reduceSub, Int.reduceToNat, Nat.reduceDiv, Int.reduceLT, Int.reduceLE, Int.reduceNeg, Int.reduceBEq, Int.reduceBNe, Int.reduceAdd, Int.reduceSub, Nat.reduceBEq, reduceCtorEq, Nat.reduceMul, TEP, tis, ens, nts, Try.results6, allOne_cls, drops_cls, drops_vi, allOne_vi]
    rw [e3, e4]
    refine ⟨⟨rfl, by decide⟩, ⟨by omega, by omega⟩, ⟨rfl, by decide⟩, ⟨by omega, by omega, by omega⟩, ⟨rfl, by decide⟩, ⟨by omega, by omega⟩, ⟨by omega, by omega, by omega⟩, ACalls.lend (ev_Rup (l ++ [d]) vars (d ++ c) (by simp; omega))
      (Reifs.cons (Reif.ls rfl (Reifs.dat (dats_cls _)) (fit_cls _) (flat_cls _) (by simp)) (Reifs.cons (Reif.dat rfl) (Reifs.cons (Reif.ls rfl (Reifs.dat (dats_vi _)) (fit_vi _) (flat_vi _) (by simp)) Reifs.nil))) rfl ?_⟩
    simp only [sa0.down, sa1.down, sa2.down, sa3.down, sa4.down, sb0.down, sb1.down, sb2.down, sb3.down, ↓reduceIte, Nat.reduceEqDiff, Nat.reduceLT, Nat.reduceLeDiff, Nat.reduceAdd, Nat.reduceSub, Int.reduceToNat, Nat.reduceDiv, Int.reduceLT, Int.reduceLE, Int.reduceNeg, Int.reduceBEq, Int.reduceBNe, Int.reduceAdd, Int.reduceSub, Nat.reduceBEq, reduceCtorEq, Nat.reduceMul, TEP, tis, ens, nts, Try.results6]
    refine ACalls.ev (ev_Check l vars steps (by omega) (fun c hc => by have := n6 c hc; omega)) (by simp only [V.dats, datC]; rfl) ?_
    simp only [sa0.down, sa1.down, sa2.down, sa3.down, sa4.down, sb0.down, sb1.down, sb2.down, sb3.down, ↓reduceIte, Nat.reduceEqDiff, Nat.reduceLT, Nat.reduceLeDiff, Nat.reduceAdd, Nat.reduceSub, Int.reduceToNat, Nat.reduceDiv, Int.reduceLT, Int.reduceLE, Int.reduceNeg, Int.reduceBEq, Int.reduceBNe, Int.reduceAdd, Int.reduceSub, Nat.reduceBEq, reduceCtorEq, Nat.reduceMul, TEP, tis, ens, nts, Try.results6]
    refine ACalls.ev (ev_prune l vars steps (by omega) (fun c hc => by have := n6 c hc; omega)) (by simp only [V.dats, datC]; rfl) ?_
    obtain ⟨p1, p2⟩ := pruneV_sub (l := l) (vars := vars) (steps := steps)
    simp only [sa0.down, sa1.down, sa2.down, sa3.down, sa4.down, sb0.down, sb1.down, sb2.down, sb3.down, ↓reduceIte, Nat.reduceEqDiff, Nat.reduceLT, Nat.reduceLeDiff, Nat.reduceAdd, Nat.reduceSub, Int.reduceToNat, Nat.reduceDiv, Int.reduceLT, Int.reduceLE, Int.reduceNeg, Int.reduceBEq, Int.reduceBNe, Int.reduceAdd, Int.reduceSub, Nat.reduceBEq, reduceCtorEq, Nat.reduceMul, TEP, tis, ens, nts, Try.results6]
    refine ACalls.ev (ev_Check l vars (pruneV l vars steps).1 (by omega) (fun c hc => by have := n6 c (p1 c hc); omega)) (by simp only [V.dats, datC]; rfl) ?_
    have k1 := rupV_more (l := l) (l' := l ++ more) (c := c) (c' := c) (vars := vars) (fun x hx => List.mem_append_left _ hx) (fun _ h => h)
    have k2 := rupV_more (l := l) (l' := l) (c := c) (c' := c ++ d) (vars := vars) (fun _ h => h) (fun x hx => List.mem_append_left _ hx)
    have k3 := rupV_own (l := l) (c := c) (d := d) (vars := vars)
    generalize rupV l vars c = rr1 at k1 k2 ⊢
    generalize rupV (l ++ more) vars c = rr2 at k1 ⊢
    generalize rupV l vars (c ++ d) = rr3 at k2 ⊢
    generalize rupV (l ++ [d]) vars (d ++ c) = rr4 at k3 ⊢
    by_cases hq : ask l vars steps = 0
    · cases hL : leadF l steps with
      | false =>
        have g5 : leadV l vars steps = (false, 0) := by unfold leadV; rw [if_neg (by simp [hq]), hL]
        have gp : pruneV l vars steps = ([], 0) := by unfold pruneV; rw [if_neg (by simp [hq]), if_neg (by simp [hL])]
        have g6 : leadV l vars [] = (leadF l [], 0) := by unfold leadV; rw [if_neg (by simp [ask_sub hq (s' := []) (by simp)])]
        rw [g5, gp, g6]
        simp only [sa0.down, sa1.down, sa2.down, sa3.down, sa4.down, sb0.down, sb1.down, sb2.down, sb3.down, ↓reduceIte, Nat.reduceEqDiff, Nat.reduceLT, Nat.reduceLeDiff, Nat.reduceAdd, Nat.reduceSub, Int.reduceToNat, Nat.reduceDiv, Int.reduceLT, Int.reduceLE, Int.reduceNeg, Int.reduceBEq, Int.reduceBNe, Int.reduceAdd, Int.reduceSub, Nat.reduceBEq, reduceCtorEq, Nat.reduceMul, TEP, tis, ens, nts, Try.results6, k1, k2, k3, castz]
        refine awp_loop (fun m f h => f.t 13 = .bool true ∧ f.t 25 = .bool false ∧ f.t 27 = cls [] ∧ f.t 31 = vi 0 ∧ f.d = []) 0 ⟨rfl, rfl, rfl, rfl, rfl⟩ ?_
        rintro m f h ⟨h13, h25, h27, h31, hd⟩
        refine vc_ok mixed _ _ _ _ ?_
        simp only [sa0.down, sa1.down, sa2.down, sa3.down, sa4.down, sb0.down, sb1.down, sb2.down, sb3.down, ↓reduceIte, Nat.reduceEqDiff, Nat.reduceLT, Nat.reduceLeDiff, Nat.reduceAdd, Nat.reduceSub, Int.reduceToNat, Nat.reduceDiv, Int.reduceLT, Int.reduceLE, Int.reduceNeg, Int.reduceBEq, Int.reduceBNe, Int.reduceAdd, Int.reduceSub, Nat.reduceBEq, reduceCtorEq, Nat.reduceMul, TEP, tis, ens, nts, Try.results6, h13, h25, h27, h31, hd, castz]
        exact Reif.dat rfl
      | true =>
        obtain ⟨w1, w2, w3⟩ := prune_all hL
        have hpl : (pruneF l steps.length steps).length ≤ steps.length := pruneF_len l _ _
        have g5 : leadV l vars steps = (true, 0) := by unfold leadV; rw [if_neg (by simp [hq]), hL]
        have gp : pruneV l vars steps = (pruneF l steps.length steps, 0) := by unfold pruneV; rw [if_neg (by simp [hq]), if_pos hL]
        have g6 : leadV l vars (pruneF l steps.length steps) = (true, 0) := by unfold leadV; rw [if_neg (by simp [ask_sub hq w1]), w2]
        rw [g5, gp, g6]
        generalize pruneF l steps.length steps = pp at w1 w2 w3 hpl ⊢
        simp only [sa0.down, sa1.down, sa2.down, sa3.down, sa4.down, sb0.down, sb1.down, sb2.down, sb3.down, ↓reduceIte, Nat.reduceEqDiff, Nat.reduceLT, Nat.reduceLeDiff, Nat.reduceAdd, Nat.reduceSub, Int.reduceToNat, Nat.reduceDiv, Int.reduceLT, Int.reduceLE, Int.reduceNeg, Int.reduceBEq, Int.reduceBNe, Int.reduceAdd, Int.reduceSub, Nat.reduceBEq, reduceCtorEq, Nat.reduceMul, TEP, tis, ens, nts, Try.results6, k1, k2, k3]
        refine awp_forget rfl ?_
        refine awp_loop (fun m f h => ∃ n, m + n = pp.length ∧ f.t 0 = cls l ∧ f.t 2 = vi vars ∧ f.t 13 = .bool true ∧ f.t 25 = .bool true ∧ f.t 27 = cls pp ∧ f.t 31 = vi n ∧ f.d = [] ∧ h = []) pp.length ⟨0, by simp, rfl, rfl, rfl, rfl, rfl, rfl, rfl, rfl⟩ ?_
        rintro m f h ⟨n, hm, h0, h2, h13, h25, h27, h31, hd, rfl⟩
        refine vc_ok mixed _ _ _ _ ?_
        simp only [sa0.down, sa1.down, sa2.down, sa3.down, sa4.down, sb0.down, sb1.down, sb2.down, sb3.down, ↓reduceIte, Nat.reduceEqDiff, Nat.reduceLT, Nat.reduceLeDiff, Nat.reduceAdd, Nat.reduceSub, Int.reduceToNat, Nat.reduceDiv, Int.reduceLT, Int.reduceLE, Int.reduceNeg, Int.reduceBEq, Int.reduceBNe, Int.reduceAdd, Int.reduceSub, Nat.reduceBEq, reduceCtorEq, Nat.reduceMul, TEP, tis, ens, nts, Try.results6, h0, h2, h13, h25, h27, h31, hd]
        refine vcB.mk (fun hc => ?_) (fun hc => ?_)
        · simp only [Bool.and_true, decide_eq_true_eq, Int.ofNat_lt] at hc
          have e5 : List.map (fun c => ints c) (pp.take n) ++ List.map (fun c => ints c) (pp.drop (n + 1)) = (pp.eraseIdx n).map fun c => ints c := by
            rw [List.eraseIdx_eq_take_drop_succ, List.map_append]
          have hel : (pp.eraseIdx n).length = pp.length - 1 := List.length_eraseIdx_of_lt hc
          refine awp_plan mixed planM (fun f' h' => f'.t 0 = cls l ∧ f'.t 2 = vi vars ∧ f'.t 13 = .bool true ∧ f'.t 25 = .bool true ∧ f'.t 27 = cls pp ∧ f'.t 31 = vi n ∧ f'.d = [] ∧
            f'.t 32 = .ls 0 1 0 (pp.length - 1) (pp.length - 1) ∧ h' = [.cells ((pp.eraseIdx n).map fun c => ints c)]) (by decide +kernel) (by decide +kernel) ?_ ?_
          · have hT : List.take n (List.map (fun c => ints c) pp) = (pp.take n).map fun c => ints c := by rw [List.map_take]
            have hD : List.drop (n + 1) (List.map (fun c => ints c) pp) = (pp.drop (n + 1)).map fun c => ints c := by rw [List.map_drop]
            have hlt : (pp.take n).length = n := by rw [List.length_take]; omega
            have hld : (pp.drop (n + 1)).length = pp.length - (n + 1) := by rw [List.length_drop]
            have hsum : n + (pp.length - (n + 1)) = pp.length - 1 := by omega
            have b1 : (([] : List Nat) = List.range 0 ∧ 0 ≤ 2 ^ 24) = True := eq_true ⟨rfl, by decide⟩
            have b2 : (0 ≤ (n : Int) ∧ (n : Int) ≤ pp.length) = True := eq_true (by omega)
            have b3 : (0 ≤ ((n + 1 : Nat) : Int) ∧ ((n + 1 : Nat) : Int) ≤ pp.length) = True := eq_true (by omega)
            have b4 : (n ≤ maxLen ∧ n * 24 ≤ 140737488355328) = True := eq_true (by omega)
            have b5 : (pp.length - 1 ≤ maxLen) = True := eq_true (by omega)
            have b6 : ((pp.length - 1) * 24 ≤ 140737488355328) = True := eq_true (by omega)
            simp only [sa0.down, sa1.down, sa2.down, sa3.down, sa4.down, sb0.down, sb1.down, sb2.down, sb3.down, ↓reduceIte, Nat.reduceEqDiff, Nat.reduceLT, Nat.reduceLeDiff, Nat.reduceAdd, Nat.reduceSub, Int.reduceToNat, Nat.reduceDiv, Int.reduceLT, Int.reduceLE, Int.reduceNeg, Int.reduceBEq, Int.reduceBNe, Int.reduceAdd, Int.reduceSub, Nat.reduceBEq, reduceCtorEq, Nat.reduceMul, TEP, tis, ens, nts, Try.results6, h0, h2, h13, h25, h27, h31, hd, planM, wrap_succ (show n < maxLen by omega), allOne_cls, drops_cls, hT, hD, hlt, hld, hsum, e5, b1, b2, b3, b4, b5, b6, Nat.mul_one]
          · rintro f h ⟨h0, h2, h13, h25, h27, h31, hd, h32, rfl⟩
            simp only [sa0.down, sa1.down, sa2.down, sa3.down, sa4.down, sb0.down, sb1.down, sb2.down, sb3.down, ↓reduceIte, Nat.reduceEqDiff, Nat.reduceLT, Nat.reduceLeDiff, Nat.reduceAdd, Nat.reduceSub, Int.reduceToNat, Nat.reduceDiv, Int.reduceLT, Int.reduceLE, Int.reduceNeg, Int.reduceBEq, Int.reduceBNe, Int.reduceAdd, Int.reduceSub, Nat.reduceBEq, reduceCtorEq, Nat.reduceMul, TEP, tis, ens, nts, Try.results6, h0, h2, h13, h25, h27, h31, hd, h32]
            have hsub : ∀ c ∈ pp.eraseIdx n, c ∈ pp := fun c hc => List.mem_of_mem_eraseIdx hc
            have g7 : leadV l vars (pp.eraseIdx n) = (false, 0) := by unfold leadV; rw [if_neg (by simp [ask_sub hq (fun c hc => w1 c (hsub c hc))]), w3 n hc]
            refine ACalls.lend (ev_Check l vars (pp.eraseIdx n) (by omega) (fun c hc => by have := n6 c (w1 c (hsub c hc)); omega)) (Reifs.cons (Reif.dat datC) (Reifs.cons (Reif.dat rfl) (Reifs.cons (Reif.ls rfl (Reifs.dat (dats_cls _)) (fit_cls _) (flat_cls _) (by simp [hel])) Reifs.nil))) rfl ?_
            rw [g7]
            simp only [sa0.down, sa1.down, sa2.down, sa3.down, sa4.down, sb0.down, sb1.down, sb2.down, sb3.down, ↓reduceIte, Nat.reduceEqDiff, Nat.reduceLT, Nat.reduceLeDiff, Nat.reduceAdd, Nat.reduceSub, Int.reduceToNat, Nat.reduceDiv, Int.reduceLT, Int.reduceLE, Int.reduceNeg, Int.reduceBEq, Int.reduceBNe, Int.reduceAdd, Int.reduceSub, Nat.reduceBEq, reduceCtorEq, Nat.reduceMul, TEP, tis, ens, nts, Try.results6, h0, h2, h13, h25, h27, h31, hd, wrap_succ (show n < maxLen by omega)]
            refine .inr ⟨0, by simp [put_d, hd], m - 1, by omega, n + 1, by omega, by simp only [sa0.down, sa1.down, sa2.down, sa3.down, sa4.down, sb0.down, sb1.down, sb2.down, sb3.down, ↓reduceIte, Nat.reduceEqDiff, Nat.reduceLT, Nat.reduceLeDiff, Nat.reduceAdd, Nat.reduceSub, Int.reduceToNat, Nat.reduceDiv, Int.reduceLT, Int.reduceLE, Int.reduceNeg, Int.reduceBEq, Int.reduceBNe, Int.reduceAdd, Int.reduceSub, Nat.reduceBEq, reduceCtorEq, Nat.reduceMul, TEP, tis, ens, nts, Try.results6, h0], by simp only [sa0.down, sa1.down, sa2.down, sa3.down, sa4.down, sb0.down, sb1.down, sb2.down, sb3.down, ↓reduceIte, Nat.reduceEqDiff, Nat.reduceLT, Nat.reduceLeDiff, Nat.reduceAdd, Nat.reduceSub, Int.reduceToNat, Nat.reduceDiv, Int.reduceLT, Int.reduceLE, Int.reduceNeg, Int.reduceBEq, Int.reduceBNe, Int.reduceAdd, Int.reduceSub, Nat.reduceBEq, reduceCtorEq, Nat.reduceMul, TEP, tis, ens, nts, Try.results6, h2], by simp only [sa0.down, sa1.down, sa2.down, sa3.down, sa4.down, sb0.down, sb1.down, sb2.down, sb3.down, ↓reduceIte, Nat.reduceEqDiff, Nat.reduceLT, Nat.reduceLeDiff, Nat.reduceAdd, Nat.reduceSub, Int.reduceToNat, Nat.reduceDiv, Int.reduceLT, Int.reduceLE, Int.reduceNeg, Int.reduceBEq, Int.reduceBNe, Int.reduceAdd, Int.reduceSub, Nat.reduceBEq, reduceCtorEq, Nat.reduceMul, TEP, tis, ens, nts, Try.results6, h13], by simp only [sa0.down, sa1.down, sa2.down, sa3.down, sa4.down, sb0.down, sb1.down, sb2.down, sb3.down, ↓reduceIte, Nat.reduceEqDiff, Nat.reduceLT, Nat.reduceLeDiff, Nat.reduceAdd, Nat.reduceSub, Int.reduceToNat, Nat.reduceDiv, Int.reduceLT, Int.reduceLE, Int.reduceNeg, Int.reduceBEq, Int.reduceBNe, Int.reduceAdd, Int.reduceSub, Nat.reduceBEq, reduceCtorEq, Nat.reduceMul, TEP, tis, ens, nts, Try.results6, h25], by simp only [sa0.down, sa1.down, sa2.down, sa3.down, sa4.down, sb0.down, sb1.down, sb2.down, sb3.down, ↓reduceIte, Nat.reduceEqDiff, Nat.reduceLT, Nat.reduceLeDiff, Nat.reduceAdd, Nat.reduceSub, Int.reduceToNat, Nat.reduceDiv, Int.reduceLT, Int.reduceLE, Int.reduceNeg, Int.reduceBEq, Int.reduceBNe, Int.reduceAdd, Int.reduceSub, Nat.reduceBEq, reduceCtorEq, Nat.reduceMul, TEP, tis, ens, nts, Try.results6, h27], by simp only [sa0.down, sa1.down, sa2.down, sa3.down, sa4.down, sb0.down, sb1.down, sb2.down, sb3.down, ↓reduceIte, Nat.reduceEqDiff, Nat.reduceLT, Nat.reduceLeDiff, Nat.reduceAdd, Nat.reduceSub, Int.reduceToNat, Nat.reduceDiv, Int.reduceLT, Int.reduceLE, Int.reduceNeg, Int.reduceBEq, Int.reduceBNe, Int.reduceAdd, Int.reduceSub, Nat.reduceBEq, reduceCtorEq, Nat.reduceMul, TEP, tis, ens, nts, Try.results6], by simp only [sa0.down, sa1.down, sa2.down, sa3.down, sa4.down, sb0.down, sb1.down, sb2.down, sb3.down, ↓reduceIte, Nat.reduceEqDiff, Nat.reduceLT, Nat.reduceLeDiff, Nat.reduceAdd, Nat.reduceSub, Int.reduceToNat, Nat.reduceDiv, Int.reduceLT, Int.reduceLE, Int.reduceNeg, Int.reduceBEq, Int.reduceBNe, Int.reduceAdd, Int.reduceSub, Nat.reduceBEq, reduceCtorEq, Nat.reduceMul, TEP, tis, ens, nts, Try.results6, hd], by simp only [sa0.down, sa1.down, sa2.down, sa3.down, sa4.down, sb0.down, sb1.down, sb2.down, sb3.down, ↓reduceIte, Nat.reduceEqDiff, Nat.reduceLT, Nat.reduceLeDiff, Nat.reduceAdd, Nat.reduceSub, Int.reduceToNat, Nat.reduceDiv, Int.reduceLT, Int.reduceLE, Int.reduceNeg, Int.reduceBEq, Int.reduceBNe, Int.reduceAdd, Int.reduceSub, Nat.reduceBEq, reduceCtorEq, Nat.reduceMul, TEP, tis, ens, nts, Try.results6]⟩
        · simp only [sa0.down, sa1.down, sa2.down, sa3.down, sa4.down, sb0.down, sb1.down, sb2.down, sb3.down, ↓reduceIte, Nat.reduceEqDiff, Nat.reduceLT, Nat.reduceLeDiff, Nat.reduceAdd, Nat.reduceSub, Int.reduceToNat, Nat.reduceDiv, Int.reduceLT, Int.reduceLE, Int.reduceNeg, Int.reduceBEq, Int.reduceBNe, Int.reduceAdd, Int.reduceSub, Nat.reduceBEq, reduceCtorEq, Nat.reduceMul, TEP, tis, ens, nts, Try.results6, h0, h2, h13, h25, h27, h31, hd]
          exact Reif.dat rfl

    · have g5 : leadV l vars steps = (false, ask l vars steps) := by unfold leadV; rw [if_pos hq]
      have gp : pruneV l vars steps = ([], ask l vars steps) := by unfold pruneV; rw [if_pos hq]
      rw [g5, gp]
      generalize leadV l vars [] = rr6
      have hz : (ask l vars steps == 0) = false := by simpa using hq
      simp only [sa0.down, sa1.down, sa2.down, sa3.down, sa4.down, sb0.down, sb1.down, sb2.down, sb3.down, ↓reduceIte, Nat.reduceEqDiff, Nat.reduceLT, Nat.reduceLeDiff, Nat.reduceAdd, Nat.reduceSub, Int.reduceToNat, Nat.reduceDiv, Int.reduceLT, Int.reduceLE, Int.reduceNeg, Int.reduceBEq, Int.reduceBNe, Int.reduceAdd, Int.reduceSub, Nat.reduceBEq, reduceCtorEq, Nat.reduceMul, TEP, tis, ens, nts, Try.results6, k1, k2, k3, hz, castz, bne_self_eq_false]
      refine awp_loop (fun m f h => f.t 13 = .bool true ∧ f.t 25 = .bool false ∧ f.t 27 = cls [] ∧ f.t 31 = vi 0 ∧ f.d = []) 0 ⟨rfl, rfl, rfl, rfl, rfl⟩ ?_
      rintro m f h ⟨h13, h25, h27, h31, hd⟩
      refine vc_ok mixed _ _ _ _ ?_
      simp only [sa0.down, sa1.down, sa2.down, sa3.down, sa4.down, sb0.down, sb1.down, sb2.down, sb3.down, ↓reduceIte, Nat.reduceEqDiff, Nat.reduceLT, Nat.reduceLeDiff, Nat.reduceAdd, Nat.reduceSub, Int.reduceToNat, Nat.reduceDiv, Int.reduceLT, Int.reduceLE, Int.reduceNeg, Int.reduceBEq, Int.reduceBNe, Int.reduceAdd, Int.reduceSub, Nat.reduceBEq, reduceCtorEq, Nat.reduceMul, TEP, tis, ens, nts, Try.results6, h13, h25, h27, h31, hd, castz]
      exact Reif.dat rfl

end Go.Proofs.Ytegnjoonhabicaa
