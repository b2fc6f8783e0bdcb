/- Functions of the program, part 12. -/
import Derived.Test.YtegnjoonhabicaaF11
set_option linter.unusedVariables false
set_option linter.unusedSimpArgs false
set_option linter.unnecessarySimpa false
namespace Go.Proofs.Ytegnjoonhabicaa
open Go Go.Proofs Go.Abs Go.RowKit

theorem ev_cloneI (l : Cl) (hl : l.length ≤ 1000000) : Ev TE 37 [ints l] (ints l) := by
  refine Ev.of_awp Try.func37 rfl (by simp [nts]) (vc_ok mixed _ _ _ _ ?_)
  simp only [sa0.down, sa1.down, sa2.down, sa3.down, sa4.down, sb0.down, sb1.down, sb2.down, sb3.down, ↓reduceIte, Nat.reduceEqDiff, Nat.reduceLT, Nat.reduceLeDiff, Nat.reduceAdd, Nat.reduceSub, Int.reduceToNat, Nat.reduceDiv, Int.reduceLT, Int.reduceLE, Int.reduceNeg, Int.reduceBEq, Int.reduceBNe, Int.reduceAdd, Int.reduceSub, Nat.reduceBEq, reduceCtorEq, Nat.reduceMul, TEP, tis, ens, nts, Try.results37]
  intro b hb
  cases b
  · have hM : maxLen = 9223372036854775807 := rfl
    simp only [sa0.down, sa1.down, sa2.down, sa3.down, sa4.down, sb0.down, sb1.down, sb2.down, sb3.down, ↓reduceIte, Nat.reduceEqDiff, Nat.reduceLT, Nat.reduceLeDiff, Nat.reduceAdd, Nat.reduceSub, Int.reduceToNat, Nat.reduceDiv, Int.reduceLT, Int.reduceLE, Int.reduceNeg, Int.reduceBEq, Int.reduceBNe, Int.reduceAdd, Int.reduceSub, Nat.reduceBEq, reduceCtorEq, Nat.reduceMul, TEP, tis, ens, nts, Try.results37, allOne_vi]
    exact ⟨⟨rfl, by decide⟩, ⟨by omega, by omega⟩, Reif.ls rfl (Reifs.dat (dats_vi _)) (fit_vi _) (flat_vi _) (by simp)⟩
  · have : l = [] := by simpa using hb rfl
    subst this
    simp only [sa0.down, sa1.down, sa2.down, sa3.down, sa4.down, sb0.down, sb1.down, sb2.down, sb3.down, ↓reduceIte, Nat.reduceEqDiff, Nat.reduceLT, Nat.reduceLeDiff, Nat.reduceAdd, Nat.reduceSub, Int.reduceToNat, Nat.reduceDiv, Int.reduceLT, Int.reduceLE, Int.reduceNeg, Int.reduceBEq, Int.reduceBNe, Int.reduceAdd, Int.reduceSub, Nat.reduceBEq, reduceCtorEq, Nat.reduceMul, TEP, tis, ens, nts, Try.results37]
    exact Reif.nils

theorem cloneC_local (l : List Cl) (hl : l.length ≤ 1000000) (hne : l ≠ []) (id cap : Nat) (ex : List V) (h : H) (hh : h[id]? = some (.cells ((l.map fun c => ints c) ++ ex))) (R : AEnd → H → (Nat → Bool) → Prop)
    (hr : R (.ret (.ls h.length 1 0 l.length l.length)) (h ++ [.cells (l.map fun c => ints c)]) (fun _ => false)) : ACalls TE 35 [.ls id 1 0 l.length cap] h R := by
  have hM : maxLen = 9223372036854775807 := rfl
  have hpos : 0 < l.length := List.length_pos_iff.2 hne
  have hcs : hcells h id = (l.map fun c => ints c) ++ ex := by simp only [hcells, hh]
  refine ACalls.of_awp Try.func35 rfl (by simp [nts]) (vc_ok mixed _ _ _ _ ?_)
  simp only [sa0.down, sa1.down, sa2.down, sa3.down, sa4.down, sb0.down, sb1.down, sb2.down, sb3.down, ↓reduceIte, Nat.reduceEqDiff, Nat.reduceLT, Nat.reduceLeDiff, Nat.reduceAdd, Nat.reduceSub, Int.reduceToNat, Nat.reduceDiv, Int.reduceLT, Int.reduceLE, Int.reduceNeg, Int.reduceBEq, Int.reduceBNe, Int.reduceAdd, Int.reduceSub, Nat.reduceBEq, reduceCtorEq, Nat.reduceMul, TEP, tis, ens, nts, Try.results35]
  intro b hb
  cases b
  · have ht : List.take l.length ((l.map fun c => ints c) ++ ex) = l.map fun c => ints c := by
      rw [List.take_left' (by simp)]
    simp only [sa0.down, sa1.down, sa2.down, sa3.down, sa4.down, sb0.down, sb1.down, sb2.down, sb3.down, ↓reduceIte, Nat.reduceEqDiff, Nat.reduceLT, Nat.reduceLeDiff, Nat.reduceAdd, Nat.reduceSub, Int.reduceToNat, Nat.reduceDiv, Int.reduceLT, Int.reduceLE, Int.reduceNeg, Int.reduceBEq, Int.reduceBNe, Int.reduceAdd, Int.reduceSub, Nat.reduceBEq, reduceCtorEq, Nat.reduceMul, TEP, tis, ens, nts, Try.results35, allOne_cls, hh, Nat.mul_one, Nat.le_add_right, ht]
    exact ⟨⟨rfl, by decide⟩, ⟨by omega, by omega⟩, hr⟩
  · have := hb rfl
    omega

/-- The steps that are needed. -/
noncomputable def pruneF (l : List Cl) : Nat → List Cl → List Cl
  | 0, left => left
  | k + 1, left => if leadF l (left.eraseIdx k) = true then pruneF l k (left.eraseIdx k) else pruneF l k left

theorem pruneF_len (l : List Cl) : ∀ (k : Nat) (left : List Cl), (pruneF l k left).length ≤ left.length
  | 0, left => Nat.le_refl _
  | k + 1, left => by
    unfold pruneF
    split
    · refine Nat.le_trans (pruneF_len l k _) ?_
      rw [List.length_eraseIdx]; split <;> omega
    · exact pruneF_len l k _

/-- What Prune tells. -/
noncomputable def pruneV (l : List Cl) (vars : Int) (steps : List Cl) : List Cl × Int :=
  if ask l vars steps ≠ 0 then ([], ask l vars steps) else if leadF l steps = true then (pruneF l steps.length steps, 0) else ([], 0)

/-- The steps that are left. -/
def Left (left : List Cl) (v : V) (h : H) : Prop :=
  (left = [] ∧ v = .nils) ∨ ∃ id ex, v = .ls id 1 0 left.length left.length ∧ h[id]? = some (.cells ((left.map fun c => ints c) ++ ex))

theorem Left.scv {left : List Cl} {v : V} {h : H} (hr : Left left v h) : v.sc ∧ v.sv = v := by
  rcases hr with ⟨_, rfl⟩ | ⟨_, _, rfl, _⟩ <;> exact ⟨trivial, rfl⟩
theorem Left.reif {left : List Cl} {v : V} {h : H} (hr : Left left v h) : Reif TE h v (cls left) := by
  rcases hr with ⟨rfl, rfl⟩ | ⟨id, ex, rfl, hh⟩
  · exact Reif.nils
  · exact Reif.ls_more hh (Reifs.dat (dats_cls _)) (fit_cls _) (flat_cls _) (by simp)

theorem splice_same {cs : List V} {i : Nat} (hi : i < cs.length) {v : V} (h : cs[i] = v) : splice cs i [v] = cs := by
  unfold splice
  rw [← h, List.length_singleton]
  rw [List.append_assoc, List.singleton_append, ← List.drop_eq_getElem_cons hi, List.take_append_drop]

set_option maxHeartbeats 2000000 in
theorem ev_prune (l : List Cl) (vars : Int) (steps : List Cl) (hn2 : steps.length ≤ 400000) (hc : ∀ c ∈ steps, c.length ≤ 1000000) :
    Ev TE 17 [cls l, vi vars, cls steps] (.tup [cls (pruneV l vars steps).1, vi (pruneV l vars steps).2]) := by
  have hM : maxLen = 9223372036854775807 := rfl
  refine Ev.of_awp Try.func17 rfl (by simp [nts]) (vc_ok mixed _ _ _ _ ?_)
  simp only [sa0.down, sa1.down, sa2.down, sa3.down, sa4.down, sb0.down, sb1.down, sb2.down, sb3.down, ↓reduceIte, Nat.reduceEqDiff, Nat.reduceLT, Nat.reduceLeDiff, Nat.reduceAdd, Nat.reduceSub, Int.reduceToNat, Nat.reduceDiv, Int.reduceLT, Int.reduceLE, Int.reduceNeg, Int.reduceBEq, Int.reduceBNe, Int.reduceAdd, Int.reduceSub, Nat.reduceBEq, reduceCtorEq, Nat.reduceMul, TEP, tis, ens, nts, Try.results17]
  refine ACalls.ev (ev_can l vars steps) (by simp [V.dats, V.dat, dats_cls]) ?_
  simp only [sa0.down, sa1.down, sa2.down, sa3.down, sa4.down, sb0.down, sb1.down, sb2.down, sb3.down, ↓reduceIte, Nat.reduceEqDiff, Nat.reduceLT, Nat.reduceLeDiff, Nat.reduceAdd, Nat.reduceSub, Int.reduceToNat, Nat.reduceDiv, Int.reduceLT, Int.reduceLE, Int.reduceNeg, Int.reduceBEq, Int.reduceBNe, Int.reduceAdd, Int.reduceSub, Nat.reduceBEq, reduceCtorEq, Nat.reduceMul, TEP, tis, ens, nts, Try.results17]
  refine vcB.mk (fun hq => ?_) (fun hq => ?_)
  · have hq : ask l vars steps ≠ 0 := by simpa using hq
    have h0 : pruneV l vars steps = ([], ask l vars steps) := by unfold pruneV; rw [if_pos hq]
    rw [h0]
    simp only [sa0.down, sa1.down, sa2.down, sa3.down, sa4.down, sb0.down, sb1.down, sb2.down, sb3.down, ↓reduceIte, Nat.reduceEqDiff, Nat.reduceLT, Nat.reduceLeDiff, Nat.reduceAdd, Nat.reduceSub, Int.reduceToNat, Nat.reduceDiv, Int.reduceLT, Int.reduceLE, Int.reduceNeg, Int.reduceBEq, Int.reduceBNe, Int.reduceAdd, Int.reduceSub, Nat.reduceBEq, reduceCtorEq, Nat.reduceMul, TEP, tis, ens, nts, Try.results17]
    exact Reif.tup (Reifs.cons Reif.nils (Reifs.cons (Reif.dat rfl) Reifs.nil))
  · have hq : ask l vars steps = 0 := by simpa using hq
    obtain ⟨q1, q2, q3, q4, q5, _⟩ := ask_ok hq
    simp only [sa0.down, sa1.down, sa2.down, sa3.down, sa4.down, sb0.down, sb1.down, sb2.down, sb3.down, ↓reduceIte, Nat.reduceEqDiff, Nat.reduceLT, Nat.reduceLeDiff, Nat.reduceAdd, Nat.reduceSub, Int.reduceToNat, Nat.reduceDiv, Int.reduceLT, Int.reduceLE, Int.reduceNeg, Int.reduceBEq, Int.reduceBNe, Int.reduceAdd, Int.reduceSub, Nat.reduceBEq, reduceCtorEq, Nat.reduceMul, TEP, tis, ens, nts, Try.results17]
    refine ACalls.ev (ev_leads l steps q1 q2 (by omega) hn2 hc) (by simp [V.dats, V.dat, dats_cls]) ?_
    simp only [sa0.down, sa1.down, sa2.down, sa3.down, sa4.down, sb0.down, sb1.down, sb2.down, sb3.down, ↓reduceIte, Nat.reduceEqDiff, Nat.reduceLT, Nat.reduceLeDiff, Nat.reduceAdd, Nat.reduceSub, Int.reduceToNat, Nat.reduceDiv, Int.reduceLT, Int.reduceLE, Int.reduceNeg, Int.reduceBEq, Int.reduceBNe, Int.reduceAdd, Int.reduceSub, Nat.reduceBEq, reduceCtorEq, Nat.reduceMul, TEP, tis, ens, nts, Try.results17]
    refine vcB.mk (fun hb => ?_) (fun hb => ?_)
    · have h0 : pruneV l vars steps = ([], 0) := by unfold pruneV; rw [if_neg (by simp [hq]), if_neg (by simpa using hb)]
      rw [h0]
      simp only [sa0.down, sa1.down, sa2.down, sa3.down, sa4.down, sb0.down, sb1.down, sb2.down, sb3.down, ↓reduceIte, Nat.reduceEqDiff, Nat.reduceLT, Nat.reduceLeDiff, Nat.reduceAdd, Nat.reduceSub, Int.reduceToNat, Nat.reduceDiv, Int.reduceLT, Int.reduceLE, Int.reduceNeg, Int.reduceBEq, Int.reduceBNe, Int.reduceAdd, Int.reduceSub, Nat.reduceBEq, reduceCtorEq, Nat.reduceMul, TEP, tis, ens, nts, Try.results17]
      exact Reif.tup (Reifs.cons Reif.nils (Reifs.cons (Reif.dat rfl) Reifs.nil))
    · have h0 : pruneV l vars steps = (pruneF l steps.length steps, 0) := by unfold pruneV; rw [if_neg (by simp [hq]), if_pos (by simpa using hb)]
      rw [h0]
      simp only [sa0.down, sa1.down, sa2.down, sa3.down, sa4.down, sb0.down, sb1.down, sb2.down, sb3.down, ↓reduceIte, Nat.reduceEqDiff, Nat.reduceLT, Nat.reduceLeDiff, Nat.reduceAdd, Nat.reduceSub, Int.reduceToNat, Nat.reduceDiv, Int.reduceLT, Int.reduceLE, Int.reduceNeg, Int.reduceBEq, Int.reduceBNe, Int.reduceAdd, Int.reduceSub, Nat.reduceBEq, reduceCtorEq, Nat.reduceMul, TEP, tis, ens, nts, Try.results17]
      refine cloneC_calls steps (by omega) _ (fun he => ?_) ?_
      · subst he
        simp only [sa0.down, sa1.down, sa2.down, sa3.down, sa4.down, sb0.down, sb1.down, sb2.down, sb3.down, ↓reduceIte, Nat.reduceEqDiff, Nat.reduceLT, Nat.reduceLeDiff, Nat.reduceAdd, Nat.reduceSub, Int.reduceToNat, Nat.reduceDiv, Int.reduceLT, Int.reduceLE, Int.reduceNeg, Int.reduceBEq, Int.reduceBNe, Int.reduceAdd, Int.reduceSub, Nat.reduceBEq, reduceCtorEq, Nat.reduceMul, TEP, tis, ens, nts, Try.results17]
        refine awp_loop (fun m f h => f.t 9 = .nils ∧ f.t 10 = vi (-1) ∧ f.d = []) 0 ⟨rfl, rfl, rfl⟩ ?_
        rintro m f h ⟨h9, h10, hd⟩
        refine vc_ok mixed _ _ _ _ ?_
        simp only [sa0.down, sa1.down, sa2.down, sa3.down, sa4.down, sb0.down, sb1.down, sb2.down, sb3.down, ↓reduceIte, Nat.reduceEqDiff, Nat.reduceLT, Nat.reduceLeDiff, Nat.reduceAdd, Nat.reduceSub, Int.reduceToNat, Nat.reduceDiv, Int.reduceLT, Int.reduceLE, Int.reduceNeg, Int.reduceBEq, Int.reduceBNe, Int.reduceAdd, Int.reduceSub, Nat.reduceBEq, reduceCtorEq, Nat.reduceMul, TEP, tis, ens, nts, Try.results17, h9, h10, hd]
        refine awp_loop (fun m f h => f.t 9 = .nils ∧ f.t 45 = vi 0 ∧ f.t 46 = vi 0 ∧ f.d = []) 0 ⟨h9, rfl, rfl, hd⟩ ?_
        rintro m f h ⟨h9, h45, h46, hd⟩
        refine vc_ok mixed _ _ _ _ ?_
        simp only [sa0.down, sa1.down, sa2.down, sa3.down, sa4.down, sb0.down, sb1.down, sb2.down, sb3.down, ↓reduceIte, Nat.reduceEqDiff, Nat.reduceLT, Nat.reduceLeDiff, Nat.reduceAdd, Nat.reduceSub, Int.reduceToNat, Nat.reduceDiv, Int.reduceLT, Int.reduceLE, Int.reduceNeg, Int.reduceBEq, Int.reduceBNe, Int.reduceAdd, Int.reduceSub, Nat.reduceBEq, reduceCtorEq, Nat.reduceMul, TEP, tis, ens, nts, Try.results17, h9, h45, h46, hd]
        exact Reif.tup (Reifs.cons Reif.nils (Reifs.cons (Reif.dat rfl) Reifs.nil))
      · simp only [sa0.down, sa1.down, sa2.down, sa3.down, sa4.down, sb0.down, sb1.down, sb2.down, sb3.down, ↓reduceIte, Nat.reduceEqDiff, Nat.reduceLT, Nat.reduceLeDiff, Nat.reduceAdd, Nat.reduceSub, Int.reduceToNat, Nat.reduceDiv, Int.reduceLT, Int.reduceLE, Int.reduceNeg, Int.reduceBEq, Int.reduceBNe, Int.reduceAdd, Int.reduceSub, Nat.reduceBEq, reduceCtorEq, Nat.reduceMul, TEP, tis, ens, nts, Try.results17]
        refine awp_loop (fun m f h => ∃ k left id ex, m = k ∧ k ≤ left.length ∧ left.length ≤ steps.length ∧ pruneF l steps.length steps = pruneF l k left ∧ (∀ c ∈ left, c ∈ steps) ∧ f.t 0 = cls l ∧ f.t 10 = vi ((k : Int) - 1) ∧ f.t 9 = .ls id 1 0 left.length left.length ∧ h[id]? = some (.cells ((left.map fun c => ints c) ++ ex)) ∧ f.d = []) steps.length
          ⟨steps.length, steps, 0, [], rfl, Nat.le_refl _, Nat.le_refl _, rfl, fun c h => h, rfl, by rw [wrapn (by omega) (by omega)]; rfl, rfl, by simp, rfl⟩ ?_
        rintro m f h ⟨k, left, id, ex, rfl, hk, hll, hp, hsub, h0', h10, h9, hh, hd⟩
        refine vc_ok mixed _ _ _ _ ?_
        simp only [sa0.down, sa1.down, sa2.down, sa3.down, sa4.down, sb0.down, sb1.down, sb2.down, sb3.down, ↓reduceIte, Nat.reduceEqDiff, Nat.reduceLT, Nat.reduceLeDiff, Nat.reduceAdd, Nat.reduceSub, Int.reduceToNat, Nat.reduceDiv, Int.reduceLT, Int.reduceLE, Int.reduceNeg, Int.reduceBEq, Int.reduceBNe, Int.reduceAdd, Int.reduceSub, Nat.reduceBEq, reduceCtorEq, Nat.reduceMul, TEP, tis, ens, nts, Try.results17, h0', h10, h9, hd]
        refine vcB.mk (fun hlt => ?_) (fun hlt => ?_)
        · obtain ⟨i, rfl⟩ : ∃ i, m = i + 1 := ⟨m - 1, by simp only [decide_eq_true_eq] at hlt; omega⟩
          have h10 : f.t 10 = vi i := by rw [h10]; congr 1; omega
          have hne : left ≠ [] := by intro h; subst h; simp at hk
          simp only [sa0.down, sa1.down, sa2.down, sa3.down, sa4.down, sb0.down, sb1.down, sb2.down, sb3.down, ↓reduceIte, Nat.reduceEqDiff, Nat.reduceLT, Nat.reduceLeDiff, Nat.reduceAdd, Nat.reduceSub, Int.reduceToNat, Nat.reduceDiv, Int.reduceLT, Int.reduceLE, Int.reduceNeg, Int.reduceBEq, Int.reduceBNe, Int.reduceAdd, Int.reduceSub, Nat.reduceBEq, reduceCtorEq, Nat.reduceMul, TEP, tis, ens, nts, Try.results17, h0', h10, h9, hd]
          refine cloneC_local left (by omega) hne id left.length ex h hh _ ?_
          simp only [sa0.down, sa1.down, sa2.down, sa3.down, sa4.down, sb0.down, sb1.down, sb2.down, sb3.down, ↓reduceIte, Nat.reduceEqDiff, Nat.reduceLT, Nat.reduceLeDiff, Nat.reduceAdd, Nat.reduceSub, Int.reduceToNat, Nat.reduceDiv, Int.reduceLT, Int.reduceLE, Int.reduceNeg, Int.reduceBEq, Int.reduceBNe, Int.reduceAdd, Int.reduceSub, Nat.reduceBEq, reduceCtorEq, Nat.reduceMul, TEP, tis, ens, nts, Try.results17, h0', h10, h9, hd, wrap_succ (show i < maxLen by omega)]
          refine delete_calls left i (by omega) (by omega) h.length left.length (Nat.le_refl _) _ (by simp) _ ?_
          have hset : (h ++ [O.cells (left.map fun c => ints c)]).set h.length (.cells (((left.eraseIdx i).map fun c => ints c) ++ [.nils])) = h ++ [.cells (((left.eraseIdx i).map fun c => ints c) ++ [.nils])] := by
            simp
          have hel : (left.eraseIdx i).length = left.length - 1 := List.length_eraseIdx_of_lt (by omega)
          have hes : ∀ c ∈ left.eraseIdx i, c ∈ steps := fun c hc => hsub c (List.mem_of_mem_eraseIdx hc)
          have hg2 : (h ++ [O.cells (((left.eraseIdx i).map fun c => ints c) ++ [.nils])])[h.length]? = some (.cells (((left.eraseIdx i).map fun c => ints c) ++ [.nils])) := by simp
          have hg3 : (h ++ [O.cells (((left.eraseIdx i).map fun c => ints c) ++ [.nils])])[id]? = some (.cells ((left.map fun c => ints c) ++ ex)) := by
            rw [List.getElem?_append_left (List.getElem?_eq_some_iff.1 hh).1, hh]
          rw [hset, ← hel]
          simp only [sa0.down, sa1.down, sa2.down, sa3.down, sa4.down, sb0.down, sb1.down, sb2.down, sb3.down, ↓reduceIte, Nat.reduceEqDiff, Nat.reduceLT, Nat.reduceLeDiff, Nat.reduceAdd, Nat.reduceSub, Int.reduceToNat, Nat.reduceDiv, Int.reduceLT, Int.reduceLE, Int.reduceNeg, Int.reduceBEq, Int.reduceBNe, Int.reduceAdd, Int.reduceSub, Nat.reduceBEq, reduceCtorEq, Nat.reduceMul, TEP, tis, ens, nts, Try.results17, h0', h10, h9, hd]
          refine ACalls.lend (ev_leads l (left.eraseIdx i) q1 (fun c hc => q2 c (hes c hc)) (by omega) (by omega) (fun c hc' => hc c (hes c hc'))) (Reifs.cons (Reif.dat (by simp only [V.dat, dats_cls])) (Reifs.cons (Reif.ls_more hg2 (Reifs.dat (dats_cls _)) (fit_cls _) (flat_cls _) (by simp)) Reifs.nil)) rfl ?_
          have hw : IntKind.i64.wrap ((i : Int) - 1) = (i : Int) - 1 := wrapn (by omega) (by omega)
          simp only [sa0.down, sa1.down, sa2.down, sa3.down, sa4.down, sb0.down, sb1.down, sb2.down, sb3.down, ↓reduceIte, Nat.reduceEqDiff, Nat.reduceLT, Nat.reduceLeDiff, Nat.reduceAdd, Nat.reduceSub, Int.reduceToNat, Nat.reduceDiv, Int.reduceLT, Int.reduceLE, Int.reduceNeg, Int.reduceBEq, Int.reduceBNe, Int.reduceAdd, Int.reduceSub, Nat.reduceBEq, reduceCtorEq, Nat.reduceMul, TEP, tis, ens, nts, Try.results17, h0', h10, h9, hd]
          refine vcB.mk (fun hy => ?_) (fun hy => ?_)
          · have hp2 : pruneF l steps.length steps = pruneF l i (left.eraseIdx i) := by rw [hp, pruneF, if_pos hy]
            simp only [sa0.down, sa1.down, sa2.down, sa3.down, sa4.down, sb0.down, sb1.down, sb2.down, sb3.down, ↓reduceIte, Nat.reduceEqDiff, Nat.reduceLT, Nat.reduceLeDiff, Nat.reduceAdd, Nat.reduceSub, Int.reduceToNat, Nat.reduceDiv, Int.reduceLT, Int.reduceLE, Int.reduceNeg, Int.reduceBEq, Int.reduceBNe, Int.reduceAdd, Int.reduceSub, Nat.reduceBEq, reduceCtorEq, Nat.reduceMul, TEP, tis, ens, nts, Try.results17, h0', h10, h9, hd, hw]
            exact .inl ⟨i, by omega, i, left.eraseIdx i, h.length, [.nils], rfl, by omega, by omega, hp2, hes, h0', rfl, rfl, hg2, hd⟩
          · have hp2 : pruneF l steps.length steps = pruneF l i left := by rw [hp, pruneF, if_neg (by simp [hy])]
            simp only [sa0.down, sa1.down, sa2.down, sa3.down, sa4.down, sb0.down, sb1.down, sb2.down, sb3.down, ↓reduceIte, Nat.reduceEqDiff, Nat.reduceLT, Nat.reduceLeDiff, Nat.reduceAdd, Nat.reduceSub, Int.reduceToNat, Nat.reduceDiv, Int.reduceLT, Int.reduceLE, Int.reduceNeg, Int.reduceBEq, Int.reduceBNe, Int.reduceAdd, Int.reduceSub, Nat.reduceBEq, reduceCtorEq, Nat.reduceMul, TEP, tis, ens, nts, Try.results17, h0', h10, h9, hd, hw]
            exact .inl ⟨i, by omega, i, left, id, ex, rfl, by omega, by omega, hp2, hsub, h0', rfl, h9, hg3, hd⟩
        · simp only [decide_eq_false_iff_not] at hlt
          have : m = 0 := by omega
          subst this
          have hp : pruneF l steps.length steps = left := hp
          rw [hp]
          simp only [sa0.down, sa1.down, sa2.down, sa3.down, sa4.down, sb0.down, sb1.down, sb2.down, sb3.down, ↓reduceIte, Nat.reduceEqDiff, Nat.reduceLT, Nat.reduceLeDiff, Nat.reduceAdd, Nat.reduceSub, Int.reduceToNat, Nat.reduceDiv, Int.reduceLT, Int.reduceLE, Int.reduceNeg, Int.reduceBEq, Int.reduceBNe, Int.reduceAdd, Int.reduceSub, Nat.reduceBEq, reduceCtorEq, Nat.reduceMul, TEP, tis, ens, nts, Try.results17, h0', h10, h9, hd]
          refine awp_loop (fun m f h => ∃ i, m + i = left.length ∧ f.t 9 = .ls id 1 0 left.length left.length ∧ f.t 44 = .ls id 1 0 left.length left.length ∧ f.t 45 = vi left.length ∧ f.t 46 = vi i ∧ f.d = [] ∧ h[id]? = some (.cells ((left.map fun c => ints c) ++ ex))) left.length ⟨0, by simp, h9, rfl, rfl, rfl, hd, hh⟩ ?_
          rintro m f h ⟨i, hm, h9, h44, h45, h46, hd, hh⟩
          refine vc_ok mixed _ _ _ _ ?_
          simp only [sa0.down, sa1.down, sa2.down, sa3.down, sa4.down, sb0.down, sb1.down, sb2.down, sb3.down, ↓reduceIte, Nat.reduceEqDiff, Nat.reduceLT, Nat.reduceLeDiff, Nat.reduceAdd, Nat.reduceSub, Int.reduceToNat, Nat.reduceDiv, Int.reduceLT, Int.reduceLE, Int.reduceNeg, Int.reduceBEq, Int.reduceBNe, Int.reduceAdd, Int.reduceSub, Nat.reduceBEq, reduceCtorEq, Nat.reduceMul, TEP, tis, ens, nts, Try.results17, h9, h44, h45, h46, hd]
          refine vcB.mk (fun hc1 => ?_) (fun hc1 => ?_)
          · simp only [decide_eq_true_eq, Int.ofNat_lt] at hc1
            have hgd : ((left.map fun c => ints c) ++ ex).getD (i * 1) .any = ints left[i] := by
              rw [Nat.mul_one, getD_at (by simp; omega), List.getElem_append_left (by simpa using hc1)]
              simp
            have hgl : ((left.map fun c => ints c) ++ ex)[i]'(by simp; omega) = ints left[i] := by
              rw [List.getElem_append_left (by simpa using hc1)]
              simp
            have hspl : splice ((left.map fun c => ints c) ++ ex) i [ints left[i]] = (left.map fun c => ints c) ++ ex := splice_same (by simp; omega) hgl
            have hid := (List.getElem?_eq_some_iff.1 hh).1
            simp only [sa0.down, sa1.down, sa2.down, sa3.down, sa4.down, sb0.down, sb1.down, sb2.down, sb3.down, ↓reduceIte, Nat.reduceEqDiff, Nat.reduceLT, Nat.reduceLeDiff, Nat.reduceAdd, Nat.reduceSub, Int.reduceToNat, Nat.reduceDiv, Int.reduceLT, Int.reduceLE, Int.reduceNeg, Int.reduceBEq, Int.reduceBNe, Int.reduceAdd, Int.reduceSub, Nat.reduceBEq, reduceCtorEq, Nat.reduceMul, TEP, tis, ens, nts, Try.results17, h9, h44, h45, h46, hd, hh, hgd]
            refine ⟨⟨by omega, by omega⟩, by omega, ACalls.ev (ev_cloneI left[i] (hc _ (hsub _ (List.getElem_mem _)))) (by simp only [V.dats, V.dat, dats_vi]; rfl) ?_⟩
            have hset : h.set id (.cells ((left.map fun c => ints c) ++ ex)) = h := by
              apply List.ext_getElem?
              intro j
              by_cases hj : id = j
              · subst hj; rw [List.getElem?_set_self hid, hh]
              · rw [List.getElem?_set_ne hj]
            have hs2 : List.take (i * 1) ((left.map fun c => ints c) ++ ex) ++ [ints left[i]] ++ List.drop (i * 1 + 1) ((left.map fun c => ints c) ++ ex) = (left.map fun c => ints c) ++ ex := by
              rw [Nat.mul_one]; exact hspl
            simp only [sa0.down, sa1.down, sa2.down, sa3.down, sa4.down, sb0.down, sb1.down, sb2.down, sb3.down, ↓reduceIte, Nat.reduceEqDiff, Nat.reduceLT, Nat.reduceLeDiff, Nat.reduceAdd, Nat.reduceSub, Int.reduceToNat, Nat.reduceDiv, Int.reduceLT, Int.reduceLE, Int.reduceNeg, Int.reduceBEq, Int.reduceBNe, Int.reduceAdd, Int.reduceSub, Nat.reduceBEq, reduceCtorEq, Nat.reduceMul, TEP, tis, ens, nts, Try.results17, h9, h44, h45, h46, hd, hh, hgd, wrap_succ (show i < maxLen by omega)]
            rw [hs2, hset]
            exact ⟨⟨by omega, by omega⟩, by omega, .inl ⟨m - 1, by omega, i + 1, by omega, h9, h44, h45, rfl, hd, hh⟩⟩
          · simp only [sa0.down, sa1.down, sa2.down, sa3.down, sa4.down, sb0.down, sb1.down, sb2.down, sb3.down, ↓reduceIte, Nat.reduceEqDiff, Nat.reduceLT, Nat.reduceLeDiff, Nat.reduceAdd, Nat.reduceSub, Int.reduceToNat, Nat.reduceDiv, Int.reduceLT, Int.reduceLE, Int.reduceNeg, Int.reduceBEq, Int.reduceBNe, Int.reduceAdd, Int.reduceSub, Nat.reduceBEq, reduceCtorEq, Nat.reduceMul, TEP, tis, ens, nts, Try.results17, h9, h44, h45, h46, hd]
            exact Reif.tup (Reifs.cons (Reif.ls_more hh (Reifs.dat (dats_cls _)) (fit_cls _) (flat_cls _) (by simp)) (Reifs.cons (Reif.dat rfl) Reifs.nil))

end Go.Proofs.Ytegnjoonhabicaa
