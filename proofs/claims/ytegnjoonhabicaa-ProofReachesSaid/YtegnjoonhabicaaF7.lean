/- Functions of the program, part 7. -/
import Derived.Test.YtegnjoonhabicaaF6
set_option linter.unusedVariables false
set_option linter.unusedSimpArgs false
set_option linter.unnecessarySimpa false
namespace Go.Proofs.Ytegnjoonhabicaa
open Go Go.Proofs Go.Abs

/-- A row that is being made. -/
def RowV (id : Nat) (vs : List V) (v : V) (h0 h : H) : Prop :=
  (vs = [] ∧ v = .nils ∧ h = h0) ∨ (v = .ls id 1 0 vs.length vs.length ∧ h = h0 ++ [.cells vs])

theorem fit_vi : ∀ c : Cl, allFit 1 (c.map vi) = true
  | [] => rfl
  | a :: c => by simp only [List.map_cons, allFit, fit_vi c, V.fit, V.vc, List.length_singleton]; rfl
theorem flat_vi : ∀ c : Cl, (c.map vi).flatMap V.vc = c.map vi
  | [] => rfl
  | a :: c => by simp only [List.map_cons, List.flatMap_cons, V.vc, flat_vi c]; rfl
theorem fit_cls : ∀ l : List Cl, allFit 1 (l.map fun c => ints c) = true
  | [] => rfl
  | a :: l => by simp only [List.map_cons, allFit, fit_cls l, V.fit, V.vc, List.length_singleton]; rfl
theorem flat_cls : ∀ l : List Cl, (l.map fun c => ints c).flatMap V.vc = l.map fun c => ints c
  | [] => rfl
  | a :: l => by simp only [List.map_cons, List.flatMap_cons, V.vc, flat_cls l]; rfl
theorem dats_cls : ∀ l : List Cl, V.dats (l.map fun c => ints c) = true
  | [] => rfl
  | a :: l => by simp only [List.map_cons, V.dats, V.dat, dats_vi, dats_cls l, Bool.and_self]

theorem RowV.reifI {id : Nat} {c : Cl} {v : V} {h0 h : H} (hr : RowV id (c.map vi) v h0 h) (hl : h0.length = id) : Reif TE h v (ints c) := by
  rcases hr with ⟨h1, rfl, rfl⟩ | ⟨rfl, rfl⟩
  · have : c = [] := by simpa using h1
    subst this
    exact Reif.nils
  · exact Reif.ls (by simp [← hl]) (Reifs.dat (dats_vi _)) (fit_vi _) (flat_vi _) rfl
theorem RowV.reifC {id : Nat} {l : List Cl} {v : V} {h0 h : H} (hr : RowV id (l.map fun c => ints c) v h0 h) (hl : h0.length = id) : Reif TE h v (cls l) := by
  rcases hr with ⟨h1, rfl, rfl⟩ | ⟨rfl, rfl⟩
  · have : l = [] := by simpa using h1
    subst this
    exact Reif.nils
  · exact Reif.ls (by simp [← hl]) (Reifs.dat (dats_cls _)) (fit_cls _) (flat_cls _) rfl

theorem drops_vi {p : Nat → Bool} : ∀ c : Cl, V.drops p (c.map vi) = c.map vi
  | [] => rfl
  | a :: c => by simp only [List.map_cons, V.drops, V.drop, drops_vi c]
theorem drops_cls {p : Nat → Bool} : ∀ l : List Cl, V.drops p (l.map fun c => ints c) = l.map fun c => ints c
  | [] => rfl
  | a :: c => by simp only [List.map_cons, V.drops, V.drop, drops_cls c]
theorem RowV.scv {id : Nat} {vs : List V} {v : V} {h0 h : H} (hr : RowV id vs v h0 h) : v.sc ∧ v.sv = v := by
  rcases hr with ⟨_, rfl, _⟩ | ⟨rfl, _⟩ <;> exact ⟨trivial, rfl⟩

theorem take_map_succ {α β : Type} {l : List α} {g : α → β} {i : Nat} (h : i < l.length) : (l.take (i + 1)).map g = (l.take i).map g ++ [g l[i]] := by
  rw [List.take_add_one, List.map_append]
  simp only [h, List.getElem?_eq_getElem, Option.toList_some, List.map_cons, List.map_nil]

open Classical in
/-- Does it lead to a conflict? -/
noncomputable def badB (l : List Cl) (given : Cl) : Bool := decide (Bad l given)
theorem badB_true {l : List Cl} {given : Cl} (h : Bad l given) : badB l given = true := by simp [badB, h]
theorem badB_false {l : List Cl} {given : Cl} (h : ¬ Bad l given) : badB l given = false := by simp [badB, h]
def negs (c : Cl) : Cl := c.map fun a => -a

theorem ev_rup (l : List Cl) (c : Cl) (hl : ∀ c ∈ l, ∀ b ∈ c, -20000 ≤ b ∧ b ≤ 20000 ∧ b ≠ 0) (hg : ∀ b ∈ c, -20000 ≤ b ∧ b ≤ 20000 ∧ b ≠ 0) (hc1 : c.length ≤ 1000000) :
    Ev TE 30 [cls l, ints c] (.bool (badB l (negs c))) := by
  have hM : maxLen = 9223372036854775807 := rfl
  refine Ev.of_awp Try.func30 rfl (by simp [nts]) (vc_ok mixed _ _ _ _ ?_)
  simp only [sa0.down, sa1.down, sa2.down, sa3.down, sa4.down, sb0.down, sb1.down, sb2.down, sb3.down, ↓reduceIte, Nat.reduceEqDiff, Nat.reduceLT, Nat.reduceLeDiff, Nat.reduceAdd, Nat.reduceSub, Int.reduceToNat, Nat.reduceDiv, Int.reduceLT, Int.reduceLE, Int.reduceNeg, Int.reduceBEq, Int.reduceBNe, Int.reduceAdd, Int.reduceSub, Nat.reduceBEq, reduceCtorEq, Nat.reduceMul, TEP, tis, ens, nts, Try.results30]
  refine awp_loop (fun m f h => ∃ i, m + i = c.length ∧ f.t 0 = cls l ∧ f.t 10 = ints c ∧ f.t 11 = vi c.length ∧ f.t 12 = vi i ∧ f.d = [] ∧ RowV 0 ((negs (c.take i)).map vi) (f.t 5) [] h) c.length ⟨0, by simp, rfl, rfl, rfl, rfl, rfl, .inl ⟨rfl, rfl, rfl⟩⟩ ?_
  rintro m f h ⟨i, hm, h0, h10, h11, h12, hd, hrow⟩
  refine vc_ok mixed _ _ _ _ ?_
  simp only [sa0.down, sa1.down, sa2.down, sa3.down, sa4.down, sb0.down, sb1.down, sb2.down, sb3.down, ↓reduceIte, Nat.reduceEqDiff, Nat.reduceLT, Nat.reduceLeDiff, Nat.reduceAdd, Nat.reduceSub, Int.reduceToNat, Nat.reduceDiv, Int.reduceLT, Int.reduceLE, Int.reduceNeg, Int.reduceBEq, Int.reduceBNe, Int.reduceAdd, Int.reduceSub, Nat.reduceBEq, reduceCtorEq, Nat.reduceMul, TEP, tis, ens, nts, Try.results30, h0, h10, h11, h12, hd]
  refine vcB.mk (fun hc => ?_) (fun hc => ?_)
  · simp only [decide_eq_true_eq, Int.ofNat_lt] at hc
    have hrg := hg _ (List.getElem_mem hc)
    have hneg := wrapneg ⟨hrg.1, hrg.2.1⟩
    have hn : (negs (c.take (i + 1))).map vi = (negs (c.take i)).map vi ++ [vi (-c[i])] := by
      unfold negs
      rw [List.map_map, take_map_succ hc, List.map_map]; rfl
    have hln : (negs (c.take i)).length = i := by simp [negs]; omega
    rcases hrow with ⟨ho, hv, rfl⟩ | ⟨hv, rfl⟩
    · simp only [sa0.down, sa1.down, sa2.down, sa3.down, sa4.down, sb0.down, sb1.down, sb2.down, sb3.down, ↓reduceIte, Nat.reduceEqDiff, Nat.reduceLT, Nat.reduceLeDiff, Nat.reduceAdd, Nat.reduceSub, Int.reduceToNat, Nat.reduceDiv, Int.reduceLT, Int.reduceLE, Int.reduceNeg, Int.reduceBEq, Int.reduceBNe, Int.reduceAdd, Int.reduceSub, Nat.reduceBEq, reduceCtorEq, Nat.reduceMul, TEP, tis, ens, nts, Try.results30, h0, h10, h11, h12, hd, getI hc, hv, hneg, wrap_succ (show i < maxLen by omega)]
      refine ⟨⟨by omega, by omega⟩, ⟨rfl, by decide⟩, by omega, .inl ⟨m - 1, by omega, i + 1, by omega, h0, h10, h11, rfl, hd, ?_⟩⟩
      rw [hn, ho]
      exact .inr ⟨rfl, rfl⟩
    · simp only [sa0.down, sa1.down, sa2.down, sa3.down, sa4.down, sb0.down, sb1.down, sb2.down, sb3.down, ↓reduceIte, Nat.reduceEqDiff, Nat.reduceLT, Nat.reduceLeDiff, Nat.reduceAdd, Nat.reduceSub, Int.reduceToNat, Nat.reduceDiv, Int.reduceLT, Int.reduceLE, Int.reduceNeg, Int.reduceBEq, Int.reduceBNe, Int.reduceAdd, Int.reduceSub, Nat.reduceBEq, reduceCtorEq, Nat.reduceMul, TEP, tis, ens, nts, Try.results30, h0, h10, h11, h12, hd, getI hc, hv, hneg, wrap_succ (show i < maxLen by omega)]
      refine ⟨⟨by omega, by omega⟩, ⟨rfl, by decide⟩, ⟨by omega, by omega, by omega⟩, .inl ⟨m - 1, by omega, i + 1, by omega, by simp only [sa0.down, sa1.down, sa2.down, sa3.down, sa4.down, sb0.down, sb1.down, sb2.down, sb3.down, ↓reduceIte, Nat.reduceEqDiff, Nat.reduceLT, Nat.reduceLeDiff, Nat.reduceAdd, Nat.reduceSub, Int.reduceToNat, Nat.reduceDiv, Int.reduceLT, Int.reduceLE, Int.reduceNeg, Int.reduceBEq, Int.reduceBNe, Int.reduceAdd, Int.reduceSub, Nat.reduceBEq, reduceCtorEq, Nat.reduceMul, TEP, tis, ens, nts, Try.results30, h0], by simp only [sa0.down, sa1.down, sa2.down, sa3.down, sa4.down, sb0.down, sb1.down, sb2.down, sb3.down, ↓reduceIte, Nat.reduceEqDiff, Nat.reduceLT, Nat.reduceLeDiff, Nat.reduceAdd, Nat.reduceSub, Int.reduceToNat, Nat.reduceDiv, Int.reduceLT, Int.reduceLE, Int.reduceNeg, Int.reduceBEq, Int.reduceBNe, Int.reduceAdd, Int.reduceSub, Nat.reduceBEq, reduceCtorEq, Nat.reduceMul, TEP, tis, ens, nts, Try.results30, h10], by simp only [sa0.down, sa1.down, sa2.down, sa3.down, sa4.down, sb0.down, sb1.down, sb2.down, sb3.down, ↓reduceIte, Nat.reduceEqDiff, Nat.reduceLT, Nat.reduceLeDiff, Nat.reduceAdd, Nat.reduceSub, Int.reduceToNat, Nat.reduceDiv, Int.reduceLT, Int.reduceLE, Int.reduceNeg, Int.reduceBEq, Int.reduceBNe, Int.reduceAdd, Int.reduceSub, Nat.reduceBEq, reduceCtorEq, Nat.reduceMul, TEP, tis, ens, nts, Try.results30, h11], rfl, hd, ?_⟩⟩
      rw [hn]
      exact .inr ⟨by simp only [sa0.down, sa1.down, sa2.down, sa3.down, sa4.down, sb0.down, sb1.down, sb2.down, sb3.down, ↓reduceIte, Nat.reduceEqDiff, Nat.reduceLT, Nat.reduceLeDiff, Nat.reduceAdd, Nat.reduceSub, Int.reduceToNat, Nat.reduceDiv, Int.reduceLT, Int.reduceLE, Int.reduceNeg, Int.reduceBEq, Int.reduceBNe, Int.reduceAdd, Int.reduceSub, Nat.reduceBEq, reduceCtorEq, Nat.reduceMul, TEP, tis, ens, nts, Try.results30, List.length_singleton], by simp only [sa0.down, sa1.down, sa2.down, sa3.down, sa4.down, sb0.down, sb1.down, sb2.down, sb3.down, ↓reduceIte, Nat.reduceEqDiff, Nat.reduceLT, Nat.reduceLeDiff, Nat.reduceAdd, Nat.reduceSub, Int.reduceToNat, Nat.reduceDiv, Int.reduceLT, Int.reduceLE, Int.reduceNeg, Int.reduceBEq, Int.reduceBNe, Int.reduceAdd, Int.reduceSub, Nat.reduceBEq, reduceCtorEq, Nat.reduceMul, TEP, tis, ens, nts, Try.results30, drops_vi]⟩
  · simp only [decide_eq_false_iff_not, Int.ofNat_lt] at hc
    rw [List.take_of_length_le (by omega)] at hrow
    obtain ⟨hs1, hs2⟩ := hrow.scv
    simp only [sa0.down, sa1.down, sa2.down, sa3.down, sa4.down, sb0.down, sb1.down, sb2.down, sb3.down, ↓reduceIte, Nat.reduceEqDiff, Nat.reduceLT, Nat.reduceLeDiff, Nat.reduceAdd, Nat.reduceSub, Int.reduceToNat, Nat.reduceDiv, Int.reduceLT, Int.reduceLE, Int.reduceNeg, Int.reduceBEq, Int.reduceBNe, Int.reduceAdd, Int.reduceSub, Nat.reduceBEq, reduceCtorEq, Nat.reduceMul, TEP, tis, ens, nts, Try.results30, h0, h10, h11, h12, hd, hs1, hs2]
    refine ACalls.giveAllR (ev_reach l (negs c) hl (by intro b hb; obtain ⟨a, ha, rfl⟩ := List.mem_map.1 hb; have := hg a ha; omega)) (Reifs.cons (Reif.dat (by simp only [V.dat, dats_cls])) (Reifs.cons (hrow.reifI rfl) Reifs.nil)) ?_
    rintro r (⟨ks, rfl, hfin⟩ | ⟨rfl, hbad⟩)
    · rw [badB_false hfin.not]
      simp only [sa0.down, sa1.down, sa2.down, sa3.down, sa4.down, sb0.down, sb1.down, sb2.down, sb3.down, ↓reduceIte, Nat.reduceEqDiff, Nat.reduceLT, Nat.reduceLeDiff, Nat.reduceAdd, Nat.reduceSub, Int.reduceToNat, Nat.reduceDiv, Int.reduceLT, Int.reduceLE, Int.reduceNeg, Int.reduceBEq, Int.reduceBNe, Int.reduceAdd, Int.reduceSub, Nat.reduceBEq, reduceCtorEq, Nat.reduceMul, TEP, tis, ens, nts, Try.results30, callK, h0, h10, h11, h12, hd]
      exact Reif.dat rfl
    · rw [badB_true hbad]
      simp only [sa0.down, sa1.down, sa2.down, sa3.down, sa4.down, sb0.down, sb1.down, sb2.down, sb3.down, ↓reduceIte, Nat.reduceEqDiff, Nat.reduceLT, Nat.reduceLeDiff, Nat.reduceAdd, Nat.reduceSub, Int.reduceToNat, Nat.reduceDiv, Int.reduceLT, Int.reduceLE, Int.reduceNeg, Int.reduceBEq, Int.reduceBNe, Int.reduceAdd, Int.reduceSub, Nat.reduceBEq, reduceCtorEq, Nat.reduceMul, TEP, tis, ens, nts, Try.results30, callK, h0, h10, h11, h12, hd]
      exact Reif.dat rfl

end Go.Proofs.Ytegnjoonhabicaa
