/- Functions of the program, part 14. -/
import Derived.Test.YtegnjoonhabicaaF13
set_option linter.unusedVariables false
set_option linter.unusedSimpArgs false
set_option linter.unnecessarySimpa false
namespace Go.Proofs.Ytegnjoonhabicaa
open Go Go.Proofs Go.Abs Go.RowKit

/-! ### To work it out -/
def startC : Cl → Cl → Option Cl
  | [], ks => some ks
  | a :: g, ks => if letOk ks a = true then startC g (addI ks a) else none

def goC (l : List Cl) : Nat → Cl → Option (Option Cl)
  | 0, _ => none
  | n + 1, ks => match l.find? (fun c => unitF ks 0 c != (0, false)) with
    | none => some (some ks)
    | some c => if (unitF ks 0 c).2 = true then some none else goC l n (ks ++ [(unitF ks 0 c).1])

/-- What follows, worked out: nothing (too few steps), a conflict, or what holds. -/
def runC (l : List Cl) (n : Nat) (given : Cl) : Option (Option Cl) := match startC given [] with
  | none => some none
  | some ks => goC l n ks

theorem startC_ok {l : List Cl} {given : Cl} (hr : ∀ a ∈ given, -20000 ≤ a ∧ a ≤ 20000 ∧ a ≠ 0) : ∀ (rest g ks : Cl), g ++ rest = given → Good l given g ks →
    (∀ ks', startC rest ks = some ks' → Good l given given ks') ∧ (startC rest ks = none → Bad l given)
  | [], g, ks, he, hg => by
    rw [List.append_nil] at he
    subst he
    exact ⟨fun ks' h => (by cases h; exact hg), fun h => (by cases h)⟩
  | a :: rest, g, ks, he, hg => by
    have ha : a ∈ given := by rw [← he]; simp
    unfold startC
    by_cases hl : letOk ks a = true
    · rw [if_pos hl]
      exact startC_ok hr rest (g ++ [a]) _ (by rw [List.append_assoc]; exact he) (good_let (hr a ha) ha hg hl)
    · rw [if_neg hl]
      exact ⟨fun ks' h => (by cases h), fun _ => bad_let (hr a ha).2.2 ha hg (by simpa using hl)⟩

theorem goC_ok {l : List Cl} {given : Cl} (hl : Lits l) : ∀ (n : Nat) (ks : Cl), Good l given given ks →
    (∀ ks', goC l n ks = some (some ks') → Fin l given ks') ∧ (goC l n ks = some none → Bad l given)
  | 0, ks, _ => ⟨fun ks' h => (by cases h), fun h => (by cases h)⟩
  | n + 1, ks, hg => by
    unfold goC
    cases hf : l.find? (fun c => unitF ks 0 c != (0, false)) with
    | none =>
      refine ⟨fun ks' h => ?_, fun h => (by cases h)⟩
      cases h
      refine fin_of (fun c hc b hb => (hl c hc b hb).2.2) hg fun c hc => ?_
      have := List.find?_eq_none.1 hf c hc
      simpa using this
    | some c =>
      have hc := List.mem_of_find?_eq_some hf
      have hne : unitF ks 0 c ≠ (0, false) := by simpa using List.find?_some hf
      dsimp only
      by_cases hb : (unitF ks 0 c).2 = true
      · rw [if_pos hb]
        refine ⟨fun ks' h => (by cases h), fun _ => .inl ⟨c, hc, fun b hb2 => hg.der _ ((unitF_bad hb fun b hb => (hl c hc b hb).2.2).2 b hb2)⟩⟩
      · rw [if_neg hb]
        have hn : (unitF ks 0 c).1 ≠ 0 := fun h => hne (unitF_zero h (by simpa using hb))
        exact goC_ok hl n _ (good_step hl hg hc hn)

theorem runC_ok {l : List Cl} {given : Cl} {n : Nat} (hl : Lits l) (hr : ∀ a ∈ given, -20000 ≤ a ∧ a ≤ 20000 ∧ a ≠ 0) :
    (∀ ks', runC l n given = some (some ks') → Fin l given ks') ∧ (runC l n given = some none → Bad l given) := by
  obtain ⟨h1, h2⟩ := startC_ok (l := l) hr given [] [] rfl ⟨by simp, by simp, by simp, by simp, by simp⟩
  unfold runC
  cases h : startC given [] with
  | none => exact ⟨fun ks' h => (by cases h), fun _ => h2 h⟩
  | some ks => exact goC_ok hl n ks (h1 ks h)

instance (l : List Cl) : Decidable (Lits l) := by unfold Lits; infer_instance
theorem badB_t {l : List Cl} {given : Cl} (n : Nat) (hl : Lits l) (hr : ∀ a ∈ given, -20000 ≤ a ∧ a ≤ 20000 ∧ a ≠ 0) (h : runC l n given = some none) : badB l given = true := badB_true ((runC_ok hl hr).2 h)
theorem badB_f {l : List Cl} {given : Cl} (n : Nat) (ks : Cl) (hl : Lits l) (hr : ∀ a ∈ given, -20000 ≤ a ∧ a ≤ 20000 ∧ a ≠ 0) (h : runC l n given = some (some ks)) : badB l given = false := badB_false ((runC_ok hl hr).1 ks h).not

def leadC (n : Nat) : List Cl → List Cl → Option Bool
  | all, [] => (runC all n []).map Option.isNone
  | all, c :: s => match runC all n (negs c) with
    | none => none
    | some none => leadC n (all ++ [c]) s
    | some (some _) => some false

theorem negs_rng {c : Cl} (h : ∀ b ∈ c, -20000 ≤ b ∧ b ≤ 20000 ∧ b ≠ 0) : ∀ b ∈ negs c, -20000 ≤ b ∧ b ≤ 20000 ∧ b ≠ 0 := by
  intro b hb
  obtain ⟨a, ha, rfl⟩ := List.mem_map.1 hb
  have := h a ha
  omega

theorem leadC_ok {n : Nat} : ∀ {s all : List Cl} {b : Bool}, Lits all → Lits s → leadC n all s = some b → leadF all s = b
  | [], all, b, h1, _, h => by
    unfold leadC at h
    unfold leadF
    have hr := runC_ok (l := all) (given := []) (n := n) h1 (by simp)
    cases hc : runC all n [] with
    | none => rw [hc] at h; cases h
    | some o =>
      rw [hc] at h
      cases o with
      | none => cases h; exact badB_true (hr.2 hc)
      | some ks => cases h; exact badB_false (hr.1 ks hc).not
  | c :: s, all, b, h1, h2, h => by
    unfold leadC at h
    unfold leadF
    have hr := runC_ok (l := all) (given := negs c) (n := n) h1 (negs_rng (h2 c (by simp)))
    cases hc : runC all n (negs c) with
    | none => rw [hc] at h; cases h
    | some o =>
      rw [hc] at h
      cases o with
      | none =>
        rw [badB_true (hr.2 hc), Bool.true_and]
        exact leadC_ok (h1.app (fun x hx => by have : x = c := by simpa using hx
                                               subst this; exact h2 x (by simp))) (fun x hx => h2 x (by simp [hx])) h
      | some ks =>
        cases h
        rw [badB_false (hr.1 ks hc).not, Bool.false_and]

def VLeAll : List V → List V → Prop
  | [], [] => True
  | v :: vs, u :: us => VLe v u ∧ VLeAll vs us
  | _, _ => False
theorem velems_le {c : C} {k : Nat} : ∀ {es es' : List V} {b off : Nat}, VLeAll es es' → VElems c k es b off → VElems c k es' b off
  | [], [], _, _, _, _ => by simp only [VElems]
  | v :: vs, u :: us, b, off, h, hv => by
    simp only [VElems] at hv ⊢
    obtain ⟨⟨ev, h1, h2, h3⟩, h4⟩ := hv
    exact ⟨⟨ev, h1, h2, h.1 _ _ h3⟩, velems_le h.2 h4⟩
  | [], _ :: _, _, _, h, _ => h.elim
  | _ :: _, [], _, _, h, _ => h.elim
theorem VLeAll.length : ∀ {es es' : List V}, VLeAll es es' → es.length = es'.length
  | [], [], _ => rfl
  | _ :: vs, _ :: us, h => by simp only [List.length_cons, VLeAll.length h.2]
  | [], _ :: _, h => h.elim
  | _ :: _, [], h => h.elim
theorem VLe.is {x : Bool} {k : Nat} {es es' : List V} (h : VLeAll es es') : VLe (.is x k es) (.is false k es') := by
  intro c y hv
  simp only [VRel] at hv ⊢
  obtain ⟨a, cp, h1, h2, h3, h4, h5⟩ := hv
  have hl := h.length
  refine ⟨a, cp, by rw [h1, hl], by omega, h3, fun hf => (by cases hf), ?_⟩
  rcases h5 with rfl | ⟨b, off, h6, h7⟩
  · exact .inl (List.length_eq_zero_iff.1 (by simpa using hl.symm))
  · exact .inr ⟨b, off, h6, velems_le h h7⟩

abbrev w1 : List Cl := [[1, 2], [1, -2], [-1, 3], [-1, -3]]
abbrev xI (c : Cl) : V := .is true 1 (c.map vi)
theorem leX : ∀ {l : List Cl}, VLeAll (l.map xI) (l.map fun c => ints c)
  | [] => trivial
  | c :: l => ⟨VLe.exact, leX⟩
theorem le3 {x : Bool} {l : List Cl} {v : V} {c : Cl} : VLes [.is x 1 (l.map xI), v, xI c] [cls l, v, ints c] := VLes.cons (VLe.is leX) (VLes.cons (VLe.refl _) (VLes.cons VLe.exact VLes.nil))
theorem le3c {x y : Bool} {l : List Cl} {v : V} {c : List Cl} : VLes [.is x 1 (l.map xI), v, .is y 1 (c.map xI)] [cls l, v, cls c] := VLes.cons (VLe.is leX) (VLes.cons (VLe.refl _) (VLes.cons (VLe.is leX) VLes.nil))
theorem le3n {x : Bool} {l : List Cl} {v : V} : VLes [.is x 1 (l.map xI), v, .nils] [cls l, v, ints []] := VLes.cons (VLe.is leX) (VLes.cons (VLe.refl _) (VLes.cons VLe.nils VLes.nil))

theorem castn : ((1 : Nat) : Int) = 1 ∧ ((2 : Nat) : Int) = 2 ∧ ((3 : Nat) : Int) = 3 := ⟨rfl, rfl, rfl⟩
theorem rng : (([] : List Nat) = List.range 0) = True ∧ ([0] = List.range 1) = True ∧ ([0, 1] = List.range 2) = True ∧ ([0, 1, 2] = List.range 3) = True ∧ ([0, 1, 2, 3] = List.range 4) = True := by
  refine ⟨?_, ?_, ?_, ?_, ?_⟩ <;> exact eq_true (by decide)

theorem r1 : rupV w1 3 [1] = (true, 0) := by
  have a1 : ask w1 3 [[1]] = 0 := by decide
  unfold rupV
  rw [if_neg (by simp [a1]), badB_t 9 (by decide) (by decide) (by decide)]
theorem r2 : rupV [[1, 2]] 3 [1] = (false, 0) := by
  have a1 : ask [[1, 2]] 3 [[1]] = 0 := by decide
  unfold rupV
  rw [if_neg (by simp [a1]), badB_f 9 [-1, 2] (by decide) (by decide) (by decide)]
theorem r3 : leadV w1 3 [[1]] = (true, 0) := by
  have a1 : ask w1 3 [[1]] = 0 := by decide
  unfold leadV leadF leadF
  rw [if_neg (by simp [a1]), badB_t 9 (by decide) (by decide) (by decide), badB_t 9 (by decide) (by decide) (by decide)]
  rfl
theorem r4 : propV [[1, 2], [1, -2], [-1, 3]] 3 [-2] = ([1, -2, 3], false, 0) := by
  have a1 : ask [[1, 2], [1, -2], [-1, 3]] 3 [[-2]] = 0 := by decide
  have hf : Fin [[1, 2], [1, -2], [-1, 3]] [-2] [-2, 1, 3] := (runC_ok (n := 9) (by decide) (by decide)).1 _ (by decide)
  have hc := canon_of (vars := 3) (by decide) (by decide) hf (c' := [1, -2, 3]) (by decide) (by decide)
  unfold propV
  rw [if_neg (by simp [a1]), if_neg hf.not, ← hc]
theorem r5 : propV w1 3 [-2] = ([], true, 0) := by
  have a1 : ask w1 3 [[-2]] = 0 := by decide
  have hb : Bad w1 [-2] := (runC_ok (n := 9) (by decide) (by decide)).2 (by decide)
  unfold propV
  rw [if_neg (by simp [a1]), if_pos hb]
theorem r6 : pruneV w1 3 [[1], [1, 3], [1, 2]] = ([[1]], 0) := by
  have a1 : ask w1 3 [[1], [1, 3], [1, 2]] = 0 := by decide
  have l1 : leadF w1 [[1], [1, 3], [1, 2]] = true := leadC_ok (n := 9) (by decide) (by decide) (by decide)
  have l2 : leadF w1 [[1], [1, 3]] = true := leadC_ok (n := 9) (by decide) (by decide) (by decide)
  have l3 : leadF w1 [[1]] = true := leadC_ok (n := 9) (by decide) (by decide) (by decide)
  have l4 : leadF w1 [] = false := leadC_ok (n := 9) (by decide) (by decide) (by decide)
  have p3 : pruneF w1 3 [[1], [1, 3], [1, 2]] = pruneF w1 2 [[1], [1, 3]] := by rw [pruneF]; exact if_pos l2
  have p2 : pruneF w1 2 [[1], [1, 3]] = pruneF w1 1 [[1]] := by rw [pruneF]; exact if_pos l3
  have p1 : pruneF w1 1 [[1]] = [[1]] := by
    rw [pruneF]
    exact if_neg (by show ¬ leadF w1 [] = true; rw [l4]; exact Bool.false_ne_true)
  have p : pruneF w1 3 [[1], [1, 3], [1, 2]] = [[1]] := by rw [p3, p2, p1]
  unfold pruneV
  rw [if_neg (by simp [a1]), if_pos l1]
  exact Prod.ext p rfl
theorem r7 : rupV w1 2 [] = (false, 1) := by
  have a1 : ask w1 2 [[]] = 1 := by decide
  unfold rupV
  rw [if_pos (by simp [a1]), a1]

set_option maxRecDepth 100000 in
set_option maxHeartbeats 8000000 in
theorem ev_works : Ev TE 8 [] (.bool true) := by
  refine Ev.of_awp Try.func8 rfl (by simp [nts]) (vc_ok mixed _ _ _ _ ?_)
  simp only [sa0.down, sa1.down, sa2.down, sa3.down, sa4.down, sb0.down, sb1.down, sb2.down, sb3.down, ↓reduceIte, Nat.reduceEqDiff, Nat.reduceLT, Nat.reduceLeDiff, Nat.reduceAdd, Nat.reduceSub, Int.reduceToNat, Nat.reduceDiv, Int.reduceLT, Int.reduceLE, Int.reduceNeg, Int.reduceBEq, Int.reduceBNe, Int.reduceAdd, Int.reduceSub, Nat.reduceBEq, reduceCtorEq, Nat.reduceMul, TEP, tis, ens, nts, Try.results8, rng, castn, Nat.reducePow]
  refine ACalls.ev (Ev.le (le3 (l := w1) (c := [1])) (ev_Rup w1 3 [1] (by decide))) rfl ?_
  rw [r1]
  simp only [sa0.down, sa1.down, sa2.down, sa3.down, sa4.down, sb0.down, sb1.down, sb2.down, sb3.down, ↓reduceIte, Nat.reduceEqDiff, Nat.reduceLT, Nat.reduceLeDiff, Nat.reduceAdd, Nat.reduceSub, Int.reduceToNat, Nat.reduceDiv, Int.reduceLT, Int.reduceLE, Int.reduceNeg, Int.reduceBEq, Int.reduceBNe, Int.reduceAdd, Int.reduceSub, Nat.reduceBEq, reduceCtorEq, Nat.reduceMul, TEP, tis, ens, nts, Try.results8, rng, castn, Nat.reducePow]
  refine ⟨by decide, ACalls.ev (Ev.le (le3 (l := [[1, 2]]) (c := [1])) (ev_Rup [[1, 2]] 3 [1] (by decide))) rfl ?_⟩
  rw [r2]
  simp only [sa0.down, sa1.down, sa2.down, sa3.down, sa4.down, sb0.down, sb1.down, sb2.down, sb3.down, ↓reduceIte, Nat.reduceEqDiff, Nat.reduceLT, Nat.reduceLeDiff, Nat.reduceAdd, Nat.reduceSub, Int.reduceToNat, Nat.reduceDiv, Int.reduceLT, Int.reduceLE, Int.reduceNeg, Int.reduceBEq, Int.reduceBNe, Int.reduceAdd, Int.reduceSub, Nat.reduceBEq, reduceCtorEq, Nat.reduceMul, TEP, tis, ens, nts, Try.results8, rng, castn, Nat.reducePow]
  refine ACalls.ev (Ev.le (le3c (l := w1) (c := [[1]])) (ev_Check w1 3 [[1]] (by decide) (by decide))) rfl ?_
  rw [r3]
  simp only [sa0.down, sa1.down, sa2.down, sa3.down, sa4.down, sb0.down, sb1.down, sb2.down, sb3.down, ↓reduceIte, Nat.reduceEqDiff, Nat.reduceLT, Nat.reduceLeDiff, Nat.reduceAdd, Nat.reduceSub, Int.reduceToNat, Nat.reduceDiv, Int.reduceLT, Int.reduceLE, Int.reduceNeg, Int.reduceBEq, Int.reduceBNe, Int.reduceAdd, Int.reduceSub, Nat.reduceBEq, reduceCtorEq, Nat.reduceMul, TEP, tis, ens, nts, Try.results8, rng, castn, Nat.reducePow]
  refine ⟨by decide, ACalls.ev (Ev.le (le3 (l := [[1, 2], [1, -2], [-1, 3]]) (c := [-2])) (ev_prop [[1, 2], [1, -2], [-1, 3]] 3 [-2])) rfl ?_⟩
  rw [r4]
  simp only [sa0.down, sa1.down, sa2.down, sa3.down, sa4.down, sb0.down, sb1.down, sb2.down, sb3.down, ↓reduceIte, Nat.reduceEqDiff, Nat.reduceLT, Nat.reduceLeDiff, Nat.reduceAdd, Nat.reduceSub, Int.reduceToNat, Nat.reduceDiv, Int.reduceLT, Int.reduceLE, Int.reduceNeg, Int.reduceBEq, Int.reduceBNe, Int.reduceAdd, Int.reduceSub, Nat.reduceBEq, reduceCtorEq, Nat.reduceMul, TEP, tis, ens, nts, Try.results8, rng, castn, Nat.reducePow]
  refine ACalls.ev (Ev.le (le3 (l := w1) (c := [-2])) (ev_prop w1 3 [-2])) rfl ?_
  rw [r5]
  simp only [sa0.down, sa1.down, sa2.down, sa3.down, sa4.down, sb0.down, sb1.down, sb2.down, sb3.down, ↓reduceIte, Nat.reduceEqDiff, Nat.reduceLT, Nat.reduceLeDiff, Nat.reduceAdd, Nat.reduceSub, Int.reduceToNat, Nat.reduceDiv, Int.reduceLT, Int.reduceLE, Int.reduceNeg, Int.reduceBEq, Int.reduceBNe, Int.reduceAdd, Int.reduceSub, Nat.reduceBEq, reduceCtorEq, Nat.reduceMul, TEP, tis, ens, nts, Try.results8, rng, castn, Nat.reducePow]
  refine ACalls.ev (Ev.le (le3c (l := w1) (c := [[1], [1, 3], [1, 2]])) (ev_prune w1 3 [[1], [1, 3], [1, 2]] (by decide) (by decide))) rfl ?_
  rw [r6]
  simp only [sa0.down, sa1.down, sa2.down, sa3.down, sa4.down, sb0.down, sb1.down, sb2.down, sb3.down, ↓reduceIte, Nat.reduceEqDiff, Nat.reduceLT, Nat.reduceLeDiff, Nat.reduceAdd, Nat.reduceSub, Int.reduceToNat, Nat.reduceDiv, Int.reduceLT, Int.reduceLE, Int.reduceNeg, Int.reduceBEq, Int.reduceBNe, Int.reduceAdd, Int.reduceSub, Nat.reduceBEq, reduceCtorEq, Nat.reduceMul, TEP, tis, ens, nts, Try.results8, rng, castn, Nat.reducePow]
  refine ACalls.ev (Ev.le (le3n (l := w1)) (ev_Rup w1 2 [] (by decide))) rfl ?_
  rw [r7]
  simp only [sa0.down, sa1.down, sa2.down, sa3.down, sa4.down, sb0.down, sb1.down, sb2.down, sb3.down, ↓reduceIte, Nat.reduceEqDiff, Nat.reduceLT, Nat.reduceLeDiff, Nat.reduceAdd, Nat.reduceSub, Int.reduceToNat, Nat.reduceDiv, Int.reduceLT, Int.reduceLE, Int.reduceNeg, Int.reduceBEq, Int.reduceBNe, Int.reduceAdd, Int.reduceSub, Nat.reduceBEq, reduceCtorEq, Nat.reduceMul, TEP, tis, ens, nts, Try.results8, rng, castn, Nat.reducePow]
  refine ACalls.ev (Ev.le (VLes.cons (VLe.refl _) (VLes.cons VLe.exact VLes.nil)) (ev_ints [1, -2, 3] [1, -2, 3])) rfl ?_
  simp only [sa0.down, sa1.down, sa2.down, sa3.down, sa4.down, sb0.down, sb1.down, sb2.down, sb3.down, ↓reduceIte, Nat.reduceEqDiff, Nat.reduceLT, Nat.reduceLeDiff, Nat.reduceAdd, Nat.reduceSub, Int.reduceToNat, Nat.reduceDiv, Int.reduceLT, Int.reduceLE, Int.reduceNeg, Int.reduceBEq, Int.reduceBNe, Int.reduceAdd, Int.reduceSub, Nat.reduceBEq, reduceCtorEq, Nat.reduceMul, TEP, tis, ens, nts, Try.results8, rng, castn, Nat.reducePow]
  exact Reif.dat rfl

end Go.Proofs.Ytegnjoonhabicaa
