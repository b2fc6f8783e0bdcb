/- Functions of the program, part 8. -/
import Derived.Test.YtegnjoonhabicaaF7
set_option linter.unusedVariables false
set_option linter.unusedSimpArgs false
set_option linter.unnecessarySimpa false
namespace Go.Proofs.Ytegnjoonhabicaa
open Go Go.Proofs Go.Abs

theorem allOne_cls : ∀ l : List Cl, allOne (l.map fun c => ints c) = true
  | [] => rfl
  | a :: l => by simp only [List.map_cons, allOne, allOne_cls l, V.one, V.vc, List.length_singleton]; rfl
theorem allOne_vi : ∀ l : Cl, allOne (l.map vi) = true
  | [] => rfl
  | a :: l => by simp only [List.map_cons, allOne, allOne_vi l, V.one, V.vc, List.length_singleton]; rfl

theorem cloneC_calls (l : List Cl) (hl : l.length ≤ 1000000) (R : AEnd → H → (Nat → Bool) → Prop)
    (h1 : l = [] → R (.ret .nils) [] (fun _ => false))
    (h3 : R (.ret (.ls 0 1 0 l.length l.length)) [.cells (l.map fun c => ints c)] (fun _ => false)) : ACalls TE 35 [cls l] [] R := by
  have hM : maxLen = 9223372036854775807 := rfl
  refine ACalls.of_awp Try.func35 rfl (by simp [nts]) (vc_ok mixed _ _ _ _ ?_)
  simp only [sa0.down, sa1.down, sa2.down, sa3.down, sa4.down, sb0.down, sb1.down, sb2.down, sb3.down, ↓reduceIte, Nat.reduceEqDiff, Nat.reduceLT, Nat.reduceLeDiff, Nat.reduceAdd, Nat.reduceSub, Int.reduceToNat, Nat.reduceDiv, Int.reduceLT, Int.reduceLE, Int.reduceNeg, Int.reduceBEq, Int.reduceBNe, Int.reduceAdd, Int.reduceSub, Nat.reduceBEq, reduceCtorEq, Nat.reduceMul, TEP, tis, ens, nts, Try.results35]
  intro b hb
  cases b
  · simp only [sa0.down, sa1.down, sa2.down, sa3.down, sa4.down, sb0.down, sb1.down, sb2.down, sb3.down, ↓reduceIte, Nat.reduceEqDiff, Nat.reduceLT, Nat.reduceLeDiff, Nat.reduceAdd, Nat.reduceSub, Int.reduceToNat, Nat.reduceDiv, Int.reduceLT, Int.reduceLE, Int.reduceNeg, Int.reduceBEq, Int.reduceBNe, Int.reduceAdd, Int.reduceSub, Nat.reduceBEq, reduceCtorEq, Nat.reduceMul, TEP, tis, ens, nts, Try.results35, allOne_cls]
    exact ⟨⟨rfl, by decide⟩, ⟨by omega, by omega⟩, h3⟩
  · have : l = [] := by simpa using hb rfl
    subst this
    simp only [sa0.down, sa1.down, sa2.down, sa3.down, sa4.down, sb0.down, sb1.down, sb2.down, sb3.down, ↓reduceIte, Nat.reduceEqDiff, Nat.reduceLT, Nat.reduceLeDiff, Nat.reduceAdd, Nat.reduceSub, Int.reduceToNat, Nat.reduceDiv, Int.reduceLT, Int.reduceLE, Int.reduceNeg, Int.reduceBEq, Int.reduceBNe, Int.reduceAdd, Int.reduceSub, Nat.reduceBEq, reduceCtorEq, Nat.reduceMul, TEP, tis, ens, nts, Try.results35]
    exact h1 rfl

/-- The clauses that grow. -/
def All (j : Nat) (all : List Cl) (h : H) : Prop :=
  (j = 0 ∧ all = [] ∧ h = [.cells [.nils]]) ∨
  (j = 0 ∧ h = [.cells [.ls 1 1 0 all.length all.length], .cells (all.map fun c => ints c)]) ∨
  (j = 1 ∧ h = [.cells (all.map fun c => ints c), .cells [.ls 0 1 0 all.length all.length]])

theorem leads1_calls (j : Nat) (all : List Cl) (c : Cl) (hl : ∀ c ∈ all, ∀ b ∈ c, -20000 ≤ b ∧ b ≤ 20000 ∧ b ≠ 0) (hg : ∀ b ∈ c, -20000 ≤ b ∧ b ≤ 20000 ∧ b ≠ 0) (hc1 : c.length ≤ 1000000) (ha : all.length ≤ 1000000)
    (h : H) (hA : All j all h) (R : AEnd → H → (Nat → Bool) → Prop) (hr : ∀ h' p, All j (all ++ [c]) h' → p j = false → R (.ret (.bool (!badB all (negs c)))) h' p) :
    ACalls TE 54 [ints c, .lp j 0] h R := by
  have hM : maxLen = 9223372036854775807 := rfl
  refine ACalls.of_awp Try.func54 rfl (by simp [nts]) (vc_ok mixed _ _ _ _ ?_)
  rcases hA with ⟨rfl, rfl, rfl⟩ | ⟨rfl, rfl⟩ | ⟨rfl, rfl⟩
  · simp only [sa0.down, sa1.down, sa2.down, sa3.down, sa4.down, sb0.down, sb1.down, sb2.down, sb3.down, ↓reduceIte, Nat.reduceEqDiff, Nat.reduceLT, Nat.reduceLeDiff, Nat.reduceAdd, Nat.reduceSub, Int.reduceToNat, Nat.reduceDiv, Int.reduceLT, Int.reduceLE, Int.reduceNeg, Int.reduceBEq, Int.reduceBNe, Int.reduceAdd, Int.reduceSub, Nat.reduceBEq, reduceCtorEq, Nat.reduceMul, TEP, tis, ens, nts, Try.results54]
    refine ACalls.lend (ev_rup [] c hl hg hc1) (Reifs.cons Reif.nils (Reifs.cons (Reif.dat (by simp only [V.dat, dats_vi])) Reifs.nil)) rfl ?_
    simp only [sa0.down, sa1.down, sa2.down, sa3.down, sa4.down, sb0.down, sb1.down, sb2.down, sb3.down, ↓reduceIte, Nat.reduceEqDiff, Nat.reduceLT, Nat.reduceLeDiff, Nat.reduceAdd, Nat.reduceSub, Int.reduceToNat, Nat.reduceDiv, Int.reduceLT, Int.reduceLE, Int.reduceNeg, Int.reduceBEq, Int.reduceBNe, Int.reduceAdd, Int.reduceSub, Nat.reduceBEq, reduceCtorEq, Nat.reduceMul, TEP, tis, ens, nts, Try.results54]
    exact ⟨⟨rfl, by decide⟩, by omega, hr _ _ (.inr (.inl ⟨rfl, rfl⟩)) rfl⟩
  · simp only [sa0.down, sa1.down, sa2.down, sa3.down, sa4.down, sb0.down, sb1.down, sb2.down, sb3.down, ↓reduceIte, Nat.reduceEqDiff, Nat.reduceLT, Nat.reduceLeDiff, Nat.reduceAdd, Nat.reduceSub, Int.reduceToNat, Nat.reduceDiv, Int.reduceLT, Int.reduceLE, Int.reduceNeg, Int.reduceBEq, Int.reduceBNe, Int.reduceAdd, Int.reduceSub, Nat.reduceBEq, reduceCtorEq, Nat.reduceMul, TEP, tis, ens, nts, Try.results54]
    refine ACalls.lend (ev_rup all c hl hg hc1) (Reifs.cons (Reif.ls rfl (Reifs.dat (dats_cls _)) (fit_cls _) (flat_cls _) (by simp)) (Reifs.cons (Reif.dat (by simp only [V.dat, dats_vi])) Reifs.nil)) rfl ?_
    simp only [sa0.down, sa1.down, sa2.down, sa3.down, sa4.down, sb0.down, sb1.down, sb2.down, sb3.down, ↓reduceIte, Nat.reduceEqDiff, Nat.reduceLT, Nat.reduceLeDiff, Nat.reduceAdd, Nat.reduceSub, Int.reduceToNat, Nat.reduceDiv, Int.reduceLT, Int.reduceLE, Int.reduceNeg, Int.reduceBEq, Int.reduceBNe, Int.reduceAdd, Int.reduceSub, Nat.reduceBEq, reduceCtorEq, Nat.reduceMul, TEP, tis, ens, nts, Try.results54]
    exact ⟨⟨rfl, by decide⟩, ⟨by omega, by omega, by omega⟩, hr _ _ (.inr (.inl ⟨rfl, by simp [drops_cls]⟩)) rfl⟩
  · simp only [sa0.down, sa1.down, sa2.down, sa3.down, sa4.down, sb0.down, sb1.down, sb2.down, sb3.down, ↓reduceIte, Nat.reduceEqDiff, Nat.reduceLT, Nat.reduceLeDiff, Nat.reduceAdd, Nat.reduceSub, Int.reduceToNat, Nat.reduceDiv, Int.reduceLT, Int.reduceLE, Int.reduceNeg, Int.reduceBEq, Int.reduceBNe, Int.reduceAdd, Int.reduceSub, Nat.reduceBEq, reduceCtorEq, Nat.reduceMul, TEP, tis, ens, nts, Try.results54]
    refine ACalls.lend (ev_rup all c hl hg hc1) (Reifs.cons (Reif.ls rfl (Reifs.dat (dats_cls _)) (fit_cls _) (flat_cls _) (by simp)) (Reifs.cons (Reif.dat (by simp only [V.dat, dats_vi])) Reifs.nil)) rfl ?_
    simp only [sa0.down, sa1.down, sa2.down, sa3.down, sa4.down, sb0.down, sb1.down, sb2.down, sb3.down, ↓reduceIte, Nat.reduceEqDiff, Nat.reduceLT, Nat.reduceLeDiff, Nat.reduceAdd, Nat.reduceSub, Int.reduceToNat, Nat.reduceDiv, Int.reduceLT, Int.reduceLE, Int.reduceNeg, Int.reduceBEq, Int.reduceBNe, Int.reduceAdd, Int.reduceSub, Nat.reduceBEq, reduceCtorEq, Nat.reduceMul, TEP, tis, ens, nts, Try.results54]
    exact ⟨⟨rfl, by decide⟩, ⟨by omega, by omega, by omega⟩, hr _ _ (.inr (.inr ⟨rfl, by simp [drops_cls]⟩)) rfl⟩

theorem ixC_calls (l : List Cl) (q : FuncId) (j : Nat) (he : enters P q = true) (St : Nat → H → Prop) (b : Nat → Bool)
    (hq : ∀ i (hi : i < l.length) h R, St i h → (∀ h' p, St (i + 1) h' → p j = false → R (.ret (.bool (b i))) h' p) → ACalls TE q [ints l[i], .lp j 0] h R)
    (h : H) (h0 : St 0 h) (R : AEnd → H → (Nat → Bool) → Prop)
    (hyes : ∀ i h' p, i < l.length → (∀ k, k < i → b k = false) → b i = true → St (i + 1) h' → p j = false → R (.ret (vi i)) h' p)
    (hno : ∀ h' p, (∀ k, k < l.length → b k = false) → St l.length h' → p j = false → R (.ret (vi (-1))) h' p) :
    ACalls TE 59 [cls l, .fn (.func q) [] [.lp j 0]] h R := by
  refine ACalls.bnd fun hb => ?_
  have hlen := cls_len hb
  refine ACalls.of_awp Try.func59 rfl (by simp [nts]) (vc_ok mixed _ _ _ _ ?_)
  simp only [sa0.down, sa1.down, sa2.down, sa3.down, sa4.down, sb0.down, sb1.down, sb2.down, sb3.down, ↓reduceIte, Nat.reduceEqDiff, Nat.reduceLT, Nat.reduceLeDiff, Nat.reduceAdd, Nat.reduceSub, Int.reduceToNat, Nat.reduceDiv, Int.reduceLT, Int.reduceLE, Int.reduceNeg, Int.reduceBEq, Int.reduceBNe, Int.reduceAdd, Int.reduceSub, Nat.reduceBEq, reduceCtorEq, Nat.reduceMul, TEP, tis, ens, nts, Try.results59]
  refine awp_loop (fun m f h => ∃ i, m + i = l.length ∧ f.t 0 = cls l ∧ f.t 1 = .fn (.func q) [] [.lp j 0] ∧ f.t 7 = .int .i64 (l.length : Int) ∧ f.t 8 = .int .i64 (i : Int) ∧ f.d = [] ∧ f.k j = false ∧ St i h ∧ ∀ k, k < i → b k = false) l.length ⟨0, by simp, rfl, rfl, rfl, rfl, rfl, rfl, h0, by simp⟩ ?_
  rintro m f h ⟨i, hm, h0, h1, h7, h8, hdd, hk, hSt, hall⟩
  refine vc_ok mixed _ _ _ _ ?_
  simp only [sa0.down, sa1.down, sa2.down, sa3.down, sa4.down, sb0.down, sb1.down, sb2.down, sb3.down, ↓reduceIte, Nat.reduceEqDiff, Nat.reduceLT, Nat.reduceLeDiff, Nat.reduceAdd, Nat.reduceSub, Int.reduceToNat, Nat.reduceDiv, Int.reduceLT, Int.reduceLE, Int.reduceNeg, Int.reduceBEq, Int.reduceBNe, Int.reduceAdd, Int.reduceSub, Nat.reduceBEq, reduceCtorEq, Nat.reduceMul, TEP, tis, ens, nts, Try.results59, h0, h1, h7, h8, hdd]
  refine vcB.mk (fun hc => ?_) (fun hc => ?_)
  · simp only [decide_eq_true_eq, Int.ofNat_lt] at hc
    simp only [sa0.down, sa1.down, sa2.down, sa3.down, sa4.down, sb0.down, sb1.down, sb2.down, sb3.down, ↓reduceIte, Nat.reduceEqDiff, Nat.reduceLT, Nat.reduceLeDiff, Nat.reduceAdd, Nat.reduceSub, Int.reduceToNat, Nat.reduceDiv, Int.reduceLT, Int.reduceLE, Int.reduceNeg, Int.reduceBEq, Int.reduceBNe, Int.reduceAdd, Int.reduceSub, Nat.reduceBEq, reduceCtorEq, Nat.reduceMul, TEP, tis, ens, nts, Try.results59, h0, h1, h7, h8, hdd, getC hc, he]
    refine ⟨⟨by omega, by omega⟩, hq i hc _ _ hSt fun h' p hSt' hp => ?_⟩
    simp only [sa0.down, sa1.down, sa2.down, sa3.down, sa4.down, sb0.down, sb1.down, sb2.down, sb3.down, ↓reduceIte, Nat.reduceEqDiff, Nat.reduceLT, Nat.reduceLeDiff, Nat.reduceAdd, Nat.reduceSub, Int.reduceToNat, Nat.reduceDiv, Int.reduceLT, Int.reduceLE, Int.reduceNeg, Int.reduceBEq, Int.reduceBNe, Int.reduceAdd, Int.reduceSub, Nat.reduceBEq, reduceCtorEq, Nat.reduceMul, TEP, tis, ens, nts, Try.results59, callK, h0, h1, h7, h8, hdd, hp]
    refine vcB.mk (fun hc' => ?_) (fun hc' => ?_)
    · simp only [sa0.down, sa1.down, sa2.down, sa3.down, sa4.down, sb0.down, sb1.down, sb2.down, sb3.down, ↓reduceIte, Nat.reduceEqDiff, Nat.reduceLT, Nat.reduceLeDiff, Nat.reduceAdd, Nat.reduceSub, Int.reduceToNat, Nat.reduceDiv, Int.reduceLT, Int.reduceLE, Int.reduceNeg, Int.reduceBEq, Int.reduceBNe, Int.reduceAdd, Int.reduceSub, Nat.reduceBEq, reduceCtorEq, Nat.reduceMul, TEP, tis, ens, nts, Try.results59, hdd]
      exact hyes i _ _ hc hall hc' hSt' (by simp [hk, hp])
    · simp only [sa0.down, sa1.down, sa2.down, sa3.down, sa4.down, sb0.down, sb1.down, sb2.down, sb3.down, ↓reduceIte, Nat.reduceEqDiff, Nat.reduceLT, Nat.reduceLeDiff, Nat.reduceAdd, Nat.reduceSub, Int.reduceToNat, Nat.reduceDiv, Int.reduceLT, Int.reduceLE, Int.reduceNeg, Int.reduceBEq, Int.reduceBNe, Int.reduceAdd, Int.reduceSub, Nat.reduceBEq, reduceCtorEq, Nat.reduceMul, TEP, tis, ens, nts, Try.results59, h0, h1, h7, h8, hdd, hp, wrap_succ (show i < maxLen by omega)]
      refine .inl ⟨m - 1, by omega, i + 1, by omega, by simp only [sa0.down, sa1.down, sa2.down, sa3.down, sa4.down, sb0.down, sb1.down, sb2.down, sb3.down, ↓reduceIte, Nat.reduceEqDiff, Nat.reduceLT, Nat.reduceLeDiff, Nat.reduceAdd, Nat.reduceSub, Int.reduceToNat, Nat.reduceDiv, Int.reduceLT, Int.reduceLE, Int.reduceNeg, Int.reduceBEq, Int.reduceBNe, Int.reduceAdd, Int.reduceSub, Nat.reduceBEq, reduceCtorEq, Nat.reduceMul, TEP, tis, ens, nts, Try.results59, h0, drops_cls], by simp only [sa0.down, sa1.down, sa2.down, sa3.down, sa4.down, sb0.down, sb1.down, sb2.down, sb3.down, ↓reduceIte, Nat.reduceEqDiff, Nat.reduceLT, Nat.reduceLeDiff, Nat.reduceAdd, Nat.reduceSub, Int.reduceToNat, Nat.reduceDiv, Int.reduceLT, Int.reduceLE, Int.reduceNeg, Int.reduceBEq, Int.reduceBNe, Int.reduceAdd, Int.reduceSub, Nat.reduceBEq, reduceCtorEq, Nat.reduceMul, TEP, tis, ens, nts, Try.results59, h1, hp], by simp only [sa0.down, sa1.down, sa2.down, sa3.down, sa4.down, sb0.down, sb1.down, sb2.down, sb3.down, ↓reduceIte, Nat.reduceEqDiff, Nat.reduceLT, Nat.reduceLeDiff, Nat.reduceAdd, Nat.reduceSub, Int.reduceToNat, Nat.reduceDiv, Int.reduceLT, Int.reduceLE, Int.reduceNeg, Int.reduceBEq, Int.reduceBNe, Int.reduceAdd, Int.reduceSub, Nat.reduceBEq, reduceCtorEq, Nat.reduceMul, TEP, tis, ens, nts, Try.results59, h7], rfl, hdd, by simp only [sa0.down, sa1.down, sa2.down, sa3.down, sa4.down, sb0.down, sb1.down, sb2.down, sb3.down, ↓reduceIte, Nat.reduceEqDiff, Nat.reduceLT, Nat.reduceLeDiff, Nat.reduceAdd, Nat.reduceSub, Int.reduceToNat, Nat.reduceDiv, Int.reduceLT, Int.reduceLE, Int.reduceNeg, Int.reduceBEq, Int.reduceBNe, Int.reduceAdd, Int.reduceSub, Nat.reduceBEq, reduceCtorEq, Nat.reduceMul, TEP, tis, ens, nts, Try.results59, hk, hp], hSt', fun k hk => ?_⟩
      by_cases hki : k = i
      · subst hki; exact hc'
      · exact hall k (by omega)
  · simp only [decide_eq_false_iff_not, Int.ofNat_lt] at hc
    have : i = l.length := by omega
    subst this
    simp only [sa0.down, sa1.down, sa2.down, sa3.down, sa4.down, sb0.down, sb1.down, sb2.down, sb3.down, ↓reduceIte, Nat.reduceEqDiff, Nat.reduceLT, Nat.reduceLeDiff, Nat.reduceAdd, Nat.reduceSub, Int.reduceToNat, Nat.reduceDiv, Int.reduceLT, Int.reduceLE, Int.reduceNeg, Int.reduceBEq, Int.reduceBNe, Int.reduceAdd, Int.reduceSub, Nat.reduceBEq, reduceCtorEq, Nat.reduceMul, TEP, tis, ens, nts, Try.results59, h0, h1, h7, h8, hdd]
    exact hno _ _ hall hSt hk

theorem ctC_calls (l : List Cl) (q : FuncId) (j : Nat) (he : enters P q = true) (St : Nat → H → Prop) (b : Nat → Bool)
    (hq : ∀ i (hi : i < l.length) h R, St i h → (∀ h' p, St (i + 1) h' → p j = false → R (.ret (.bool (b i))) h' p) → ACalls TE q [ints l[i], .lp j 0] h R)
    (h : H) (h0 : St 0 h) (R : AEnd → H → (Nat → Bool) → Prop)
    (hyes : ∀ i h' p, i < l.length → (∀ k, k < i → b k = false) → b i = true → St (i + 1) h' → p j = false → R (.ret (.bool true)) h' p)
    (hno : ∀ h' p, (∀ k, k < l.length → b k = false) → St l.length h' → p j = false → R (.ret (.bool false)) h' p) :
    ACalls TE 43 [cls l, .fn (.func q) [] [.lp j 0]] h R := by
  refine ACalls.of_awp Try.func43 rfl (by simp [nts]) (vc_ok mixed _ _ _ _ ?_)
  simp only [sa0.down, sa1.down, sa2.down, sa3.down, sa4.down, sb0.down, sb1.down, sb2.down, sb3.down, ↓reduceIte, Nat.reduceEqDiff, Nat.reduceLT, Nat.reduceLeDiff, Nat.reduceAdd, Nat.reduceSub, Int.reduceToNat, Nat.reduceDiv, Int.reduceLT, Int.reduceLE, Int.reduceNeg, Int.reduceBEq, Int.reduceBNe, Int.reduceAdd, Int.reduceSub, Nat.reduceBEq, reduceCtorEq, Nat.reduceMul, TEP, tis, ens, nts, Try.results43]
  refine ixC_calls l q j he St b hq h h0 _ ?_ ?_
  · intro i h' p hi h1 h2 h3 h4
    simp only [sa0.down, sa1.down, sa2.down, sa3.down, sa4.down, sb0.down, sb1.down, sb2.down, sb3.down, ↓reduceIte, Nat.reduceEqDiff, Nat.reduceLT, Nat.reduceLeDiff, Nat.reduceAdd, Nat.reduceSub, Int.reduceToNat, Nat.reduceDiv, Int.reduceLT, Int.reduceLE, Int.reduceNeg, Int.reduceBEq, Int.reduceBNe, Int.reduceAdd, Int.reduceSub, Nat.reduceBEq, reduceCtorEq, Nat.reduceMul, TEP, tis, ens, nts, Try.results43, callK]
    have : (decide (0 ≤ (i : Int))) = true := by simp
    rw [this]
    exact hyes i h' _ hi h1 h2 h3 (by simp [h4])
  · intro h' p h1 h2 h3
    simp only [sa0.down, sa1.down, sa2.down, sa3.down, sa4.down, sb0.down, sb1.down, sb2.down, sb3.down, ↓reduceIte, Nat.reduceEqDiff, Nat.reduceLT, Nat.reduceLeDiff, Nat.reduceAdd, Nat.reduceSub, Int.reduceToNat, Nat.reduceDiv, Int.reduceLT, Int.reduceLE, Int.reduceNeg, Int.reduceBEq, Int.reduceBNe, Int.reduceAdd, Int.reduceSub, Nat.reduceBEq, reduceCtorEq, Nat.reduceMul, TEP, tis, ens, nts, Try.results43, callK]
    exact hno h' _ h1 h2 (by simp [h3])

/-- Do steps lead to a conflict? -/
noncomputable def leadF : List Cl → List Cl → Bool
  | all, [] => badB all []
  | all, c :: s => badB all (negs c) && leadF (all ++ [c]) s

theorem leadF_take {l steps : List Cl} : ∀ {i : Nat}, i ≤ steps.length → (∀ k (hk : k < steps.length), k < i → badB (l ++ steps.take k) (negs steps[k]) = true) → leadF l steps = leadF (l ++ steps.take i) (steps.drop i)
  | 0, _, _ => by simp
  | i + 1, hi, h => by
    have hlt : i < steps.length := by omega
    rw [leadF_take (i := i) (by omega) fun k hk hki => h k hk (by omega), List.drop_eq_getElem_cons hlt, leadF, h i hlt (by omega), Bool.true_and]
    congr 1
    rw [List.take_add_one]
    simp [hlt]

/-- All is as small as it has to be. -/
def Lits (l : List Cl) : Prop := ∀ c ∈ l, ∀ b ∈ c, -20000 ≤ b ∧ b ≤ 20000 ∧ b ≠ 0
theorem Lits.take {l s : List Cl} {i : Nat} (h1 : Lits l) (h2 : Lits s) : Lits (l ++ s.take i) := by
  intro c hc
  rcases List.mem_append.1 hc with hc | hc
  · exact h1 c hc
  · exact h2 c (List.mem_of_mem_take hc)
theorem Lits.app {l s : List Cl} (h1 : Lits l) (h2 : Lits s) : Lits (l ++ s) := by
  intro c hc
  rcases List.mem_append.1 hc with hc | hc
  · exact h1 c hc
  · exact h2 c hc

theorem ev_leads (l steps : List Cl) (hl : Lits l) (hs : Lits steps) (hn : l.length ≤ 400000) (hn2 : steps.length ≤ 400000) (hc : ∀ c ∈ steps, c.length ≤ 1000000) :
    Ev TE 32 [cls l, cls steps] (.bool (leadF l steps)) := by
  have fin : ∀ (j : Nat) (h : H) (R : AEnd → H → (Nat → Bool) → Prop) (h0 : All j l h)
      (hy : ∀ h' p, leadF l steps = false → p j = false → R (.ret (.bool true)) h' p)
      (hno : ∀ h' p, All j (l ++ steps) h' → leadF l steps = badB (l ++ steps) [] → p j = false → R (.ret (.bool false)) h' p),
      ACalls TE 43 [cls steps, .fn (.func 54) [] [.lp j 0]] h R := by
    intro j h R h0 hy hno
    refine ctC_calls steps 54 j rfl (fun i h => i ≤ steps.length ∧ All j (l ++ steps.take i) h) (fun i => match steps[i]? with | some c => !badB (l ++ steps.take i) (negs c) | none => false) ?_ h ⟨by omega, by simpa using h0⟩ R ?_ ?_
    · rintro i hi h R ⟨_, hA⟩ hr
      refine leads1_calls j (l ++ steps.take i) steps[i] (hl.take hs) (hs _ (List.getElem_mem hi)) (hc _ (List.getElem_mem hi)) (by rw [List.length_append, List.length_take]; omega) h hA R fun h' p hA' hp => ?_
      have := hr h' p ⟨by omega, by rw [List.take_add_one]; simpa [hi] using hA'⟩ hp
      simpa [hi] using this
    · intro i h' p hi h1 h2 _ hp
      refine hy h' p ?_ hp
      have hb : badB (l ++ steps.take i) (negs steps[i]) = false := by simpa [hi] using h2
      rw [leadF_take (i := i) (by omega) fun k hk hki => by simpa [hk] using h1 k hki, List.drop_eq_getElem_cons hi, leadF, hb, Bool.false_and]
    · rintro h' p h1 ⟨_, hA⟩ hp
      refine hno h' p (by simpa using hA) ?_ hp
      rw [leadF_take (i := steps.length) (by omega) fun k hk hki => by simpa [hk] using h1 k hk]
      simp [leadF]
  have ne : ∀ b ∈ ([] : Cl), -20000 ≤ b ∧ b ≤ 20000 ∧ b ≠ 0 := by simp
  refine Ev.of_awp Try.func32 rfl (by simp [nts]) (vc_ok mixed _ _ _ _ ?_)
  simp only [sa0.down, sa1.down, sa2.down, sa3.down, sa4.down, sb0.down, sb1.down, sb2.down, sb3.down, ↓reduceIte, Nat.reduceEqDiff, Nat.reduceLT, Nat.reduceLeDiff, Nat.reduceAdd, Nat.reduceSub, Int.reduceToNat, Nat.reduceDiv, Int.reduceLT, Int.reduceLE, Int.reduceNeg, Int.reduceBEq, Int.reduceBNe, Int.reduceAdd, Int.reduceSub, Nat.reduceBEq, reduceCtorEq, Nat.reduceMul, TEP, tis, ens, nts, Try.results32]
  refine cloneC_calls l (by omega) _ (fun he => ?_) ?_
  · subst he
    simp only [sa0.down, sa1.down, sa2.down, sa3.down, sa4.down, sb0.down, sb1.down, sb2.down, sb3.down, ↓reduceIte, Nat.reduceEqDiff, Nat.reduceLT, Nat.reduceLeDiff, Nat.reduceAdd, Nat.reduceSub, Int.reduceToNat, Nat.reduceDiv, Int.reduceLT, Int.reduceLE, Int.reduceNeg, Int.reduceBEq, Int.reduceBNe, Int.reduceAdd, Int.reduceSub, Nat.reduceBEq, reduceCtorEq, Nat.reduceMul, TEP, tis, ens, nts, Try.results32]
    refine fin 0 _ _ (.inl ⟨rfl, rfl, rfl⟩) ?_ ?_
    · intro h' p h1 hp
      simp only [sa0.down, sa1.down, sa2.down, sa3.down, sa4.down, sb0.down, sb1.down, sb2.down, sb3.down, ↓reduceIte, Nat.reduceEqDiff, Nat.reduceLT, Nat.reduceLeDiff, Nat.reduceAdd, Nat.reduceSub, Int.reduceToNat, Nat.reduceDiv, Int.reduceLT, Int.reduceLE, Int.reduceNeg, Int.reduceBEq, Int.reduceBNe, Int.reduceAdd, Int.reduceSub, Nat.reduceBEq, reduceCtorEq, Nat.reduceMul, TEP, tis, ens, nts, Try.results32, callK, hp]
      exact ⟨.bool false, trivial, Reif.eq rfl (by rw [h1]; rfl)⟩
    · intro h' p hA h1 hp
      rcases hA with ⟨_, he, rfl⟩ | ⟨_, rfl⟩ | ⟨hj, _⟩
      · simp only [sa0.down, sa1.down, sa2.down, sa3.down, sa4.down, sb0.down, sb1.down, sb2.down, sb3.down, ↓reduceIte, Nat.reduceEqDiff, Nat.reduceLT, Nat.reduceLeDiff, Nat.reduceAdd, Nat.reduceSub, Int.reduceToNat, Nat.reduceDiv, Int.reduceLT, Int.reduceLE, Int.reduceNeg, Int.reduceBEq, Int.reduceBNe, Int.reduceAdd, Int.reduceSub, Nat.reduceBEq, reduceCtorEq, Nat.reduceMul, TEP, tis, ens, nts, Try.results32, callK, hp]
        refine ACalls.lend (ev_rup [] [] (by simp) ne (by simp)) (Reifs.cons Reif.nils (Reifs.cons Reif.nils Reifs.nil)) rfl ?_
        simp only [sa0.down, sa1.down, sa2.down, sa3.down, sa4.down, sb0.down, sb1.down, sb2.down, sb3.down, ↓reduceIte, Nat.reduceEqDiff, Nat.reduceLT, Nat.reduceLeDiff, Nat.reduceAdd, Nat.reduceSub, Int.reduceToNat, Nat.reduceDiv, Int.reduceLT, Int.reduceLE, Int.reduceNeg, Int.reduceBEq, Int.reduceBNe, Int.reduceAdd, Int.reduceSub, Nat.reduceBEq, reduceCtorEq, Nat.reduceMul, TEP, tis, ens, nts, Try.results32, hp]
        exact Reif.eq rfl (by rw [h1, he]; rfl)
      · simp only [sa0.down, sa1.down, sa2.down, sa3.down, sa4.down, sb0.down, sb1.down, sb2.down, sb3.down, ↓reduceIte, Nat.reduceEqDiff, Nat.reduceLT, Nat.reduceLeDiff, Nat.reduceAdd, Nat.reduceSub, Int.reduceToNat, Nat.reduceDiv, Int.reduceLT, Int.reduceLE, Int.reduceNeg, Int.reduceBEq, Int.reduceBNe, Int.reduceAdd, Int.reduceSub, Nat.reduceBEq, reduceCtorEq, Nat.reduceMul, TEP, tis, ens, nts, Try.results32, callK, hp]
        refine ACalls.lend (ev_rup steps [] hs ne (by simp)) (Reifs.cons (Reif.ls rfl (Reifs.dat (dats_cls _)) (fit_cls _) (flat_cls _) (by simp)) (Reifs.cons Reif.nils Reifs.nil)) rfl ?_
        simp only [sa0.down, sa1.down, sa2.down, sa3.down, sa4.down, sb0.down, sb1.down, sb2.down, sb3.down, ↓reduceIte, Nat.reduceEqDiff, Nat.reduceLT, Nat.reduceLeDiff, Nat.reduceAdd, Nat.reduceSub, Int.reduceToNat, Nat.reduceDiv, Int.reduceLT, Int.reduceLE, Int.reduceNeg, Int.reduceBEq, Int.reduceBNe, Int.reduceAdd, Int.reduceSub, Nat.reduceBEq, reduceCtorEq, Nat.reduceMul, TEP, tis, ens, nts, Try.results32, hp]
        exact Reif.eq rfl (by rw [h1]; rfl)
      · cases hj
  · simp only [sa0.down, sa1.down, sa2.down, sa3.down, sa4.down, sb0.down, sb1.down, sb2.down, sb3.down, ↓reduceIte, Nat.reduceEqDiff, Nat.reduceLT, Nat.reduceLeDiff, Nat.reduceAdd, Nat.reduceSub, Int.reduceToNat, Nat.reduceDiv, Int.reduceLT, Int.reduceLE, Int.reduceNeg, Int.reduceBEq, Int.reduceBNe, Int.reduceAdd, Int.reduceSub, Nat.reduceBEq, reduceCtorEq, Nat.reduceMul, TEP, tis, ens, nts, Try.results32]
    refine fin 1 _ _ (.inr (.inr ⟨rfl, rfl⟩)) ?_ ?_
    · intro h' p h1 hp
      simp only [sa0.down, sa1.down, sa2.down, sa3.down, sa4.down, sb0.down, sb1.down, sb2.down, sb3.down, ↓reduceIte, Nat.reduceEqDiff, Nat.reduceLT, Nat.reduceLeDiff, Nat.reduceAdd, Nat.reduceSub, Int.reduceToNat, Nat.reduceDiv, Int.reduceLT, Int.reduceLE, Int.reduceNeg, Int.reduceBEq, Int.reduceBNe, Int.reduceAdd, Int.reduceSub, Nat.reduceBEq, reduceCtorEq, Nat.reduceMul, TEP, tis, ens, nts, Try.results32, callK, hp]
      exact ⟨.bool false, trivial, Reif.eq rfl (by rw [h1]; rfl)⟩
    · intro h' p hA h1 hp
      rcases hA with ⟨hj, _⟩ | ⟨hj, _⟩ | ⟨_, rfl⟩
      · cases hj
      · cases hj
      · simp only [sa0.down, sa1.down, sa2.down, sa3.down, sa4.down, sb0.down, sb1.down, sb2.down, sb3.down, ↓reduceIte, Nat.reduceEqDiff, Nat.reduceLT, Nat.reduceLeDiff, Nat.reduceAdd, Nat.reduceSub, Int.reduceToNat, Nat.reduceDiv, Int.reduceLT, Int.reduceLE, Int.reduceNeg, Int.reduceBEq, Int.reduceBNe, Int.reduceAdd, Int.reduceSub, Nat.reduceBEq, reduceCtorEq, Nat.reduceMul, TEP, tis, ens, nts, Try.results32, callK, hp]
        refine ACalls.lend (ev_rup (l ++ steps) [] (hl.app hs) ne (by simp)) (Reifs.cons (Reif.ls rfl (by rw [← List.map_append]; exact Reifs.dat (dats_cls _)) (fit_cls _) (flat_cls _) (by simp)) (Reifs.cons Reif.nils Reifs.nil)) rfl ?_
        simp only [sa0.down, sa1.down, sa2.down, sa3.down, sa4.down, sb0.down, sb1.down, sb2.down, sb3.down, ↓reduceIte, Nat.reduceEqDiff, Nat.reduceLT, Nat.reduceLeDiff, Nat.reduceAdd, Nat.reduceSub, Int.reduceToNat, Nat.reduceDiv, Int.reduceLT, Int.reduceLE, Int.reduceNeg, Int.reduceBEq, Int.reduceBNe, Int.reduceAdd, Int.reduceSub, Nat.reduceBEq, reduceCtorEq, Nat.reduceMul, TEP, tis, ens, nts, Try.results32, hp]
        exact Reif.eq rfl (by rw [h1]; rfl)

end Go.Proofs.Ytegnjoonhabicaa
