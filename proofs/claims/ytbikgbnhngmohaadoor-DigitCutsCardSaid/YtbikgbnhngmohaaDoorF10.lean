/- Functions of the program, part 10. -/
import Derived.Test.YtbikgbnhngmohaaDoorF9
set_option linter.unusedVariables false
set_option linter.unusedSimpArgs false
set_option linter.unnecessarySimpa false
namespace Go.Proofs.YtbikgbnhngmohaaDoor
open Go Go.Proofs Go.Abs Go.RowKit

set_option maxHeartbeats 4000000 in
theorem ev_rund (s : By) (a : Int) (hl : s.length ≤ 100000) : Ev TE 19 [.str s, vi a] (.tup [vi (undR s a).1, vi (undR s a).2.1, vi (undR s a).2.2]) := by
  have hM : maxLen = 9223372036854775807 := rfl
  refine Ev.of_awp Tryd.func19 rfl (by simp [nts]) (vc_ok mixed _ _ _ _ ?_)
  simp only [sa0.down, sa1.down, sa2.down, sa3.down, sa4.down, sb0.down, sb1.down, sb2.down, sb3.down, ↓reduceIte, Nat.reduceEqDiff, Nat.reduceLT, Nat.reduceLeDiff, Nat.reduceAdd, Nat.reduceSub, Int.reduceToNat, Nat.reduceDiv, Int.reduceLT, Int.reduceLE, Int.reduceNeg, Int.reduceBEq, Int.reduceBNe, Int.reduceAdd, Int.reduceSub, Nat.reduceBEq, reduceCtorEq, Nat.reduceMul, TEP, pvNilI, tis, ens, nts, Tryd.results19]
  refine vcB.mk (fun hc => ?_) (fun hc => ?_)
  · have h0 : undR s a = (0, a, 10) := by
      unfold undR
      rw [if_pos (by simpa using hc)]
    rw [h0]
    simp only [sa0.down, sa1.down, sa2.down, sa3.down, sa4.down, sb0.down, sb1.down, sb2.down, sb3.down, ↓reduceIte, Nat.reduceEqDiff, Nat.reduceLT, Nat.reduceLeDiff, Nat.reduceAdd, Nat.reduceSub, Int.reduceToNat, Nat.reduceDiv, Int.reduceLT, Int.reduceLE, Int.reduceNeg, Int.reduceBEq, Int.reduceBNe, Int.reduceAdd, Int.reduceSub, Nat.reduceBEq, reduceCtorEq, Nat.reduceMul, TEP, pvNilI, tis, ens, nts, Tryd.results19]
    exact Reif.dat rfl
  · simp only [Bool.or_eq_false_iff, decide_eq_false_iff_not] at hc
    obtain ⟨p, rfl⟩ : ∃ p : Nat, a = p := ⟨a.toNat, by omega⟩
    have hp : p ≤ s.length := by omega
    have hdl : (s.drop p).length = s.length - p := List.length_drop
    have hu : undR s p = if ((s.drop p).takeWhile fun c => decide (128 ≤ c.toNat)).length = (s.drop p).length then (0, (p : Int), (10 : Int))
        else if goodG ((s.drop p).take (((s.drop p).takeWhile fun c => decide (128 ≤ c.toNat)).length + 1)) then
          (((vgD ((s.drop p).take (((s.drop p).takeWhile fun c => decide (128 ≤ c.toNat)).length + 1)) : Nat) : Int), (p : Int) + (((s.drop p).takeWhile fun c => decide (128 ≤ c.toNat)).length + 1 : Nat), (0 : Int))
        else (0, (p : Int), 3) := by
      unfold undR
      rw [if_neg (by omega), Int.toNat_natCast]
    simp only [sa0.down, sa1.down, sa2.down, sa3.down, sa4.down, sb0.down, sb1.down, sb2.down, sb3.down, ↓reduceIte, Nat.reduceEqDiff, Nat.reduceLT, Nat.reduceLeDiff, Nat.reduceAdd, Nat.reduceSub, Int.reduceToNat, Nat.reduceDiv, Int.reduceLT, Int.reduceLE, Int.reduceNeg, Int.reduceBEq, Int.reduceBNe, Int.reduceAdd, Int.reduceSub, Nat.reduceBEq, reduceCtorEq, Nat.reduceMul, TEP, pvNilI, tis, ens, nts, Tryd.results19]
    refine awp_loop (fun m f h => ∃ k, m + k = s.length - p ∧ f.t 0 = .str s ∧ f.t 1 = vi p ∧ f.t 7 = vi ((p + k : Nat) : Int) ∧ f.d = [] ∧ h = [] ∧ ((s.drop p).take k).all (fun c => decide (128 ≤ c.toNat)) = true) (s.length - p) ⟨0, by omega, rfl, rfl, rfl, rfl, rfl, by simp⟩ ?_
    rintro m f h ⟨k, hm, h0, h1, h7, hd, rfl, hall⟩
    have fin : ∀ hstop : k < (s.drop p).length → decide (128 ≤ ((s.drop p).getD k 0).toNat) = false, ((s.drop p).takeWhile fun c => decide (128 ≤ c.toNat)).length = k := fun hstop =>
      twP (p := fun c => decide (128 ≤ c.toNat)) (by omega) hall hstop
    refine vc_ok mixed _ _ _ _ ?_
    by_cases hlt : k < s.length - p
    · have hlt2 : decide (((p + k : Nat) : Int) < (s.length : Int)) = true := by rw [decide_eq_true_eq]; omega
      cases hD : decide (128 ≤ (s.getD (p + k) 0).toNat) with
      | true =>
        have hD2 : decide ((127 : Int) < ((s.getD (p + k) 0).toNat : Int)) = true := by have := of_decide_eq_true hD; rw [decide_eq_true_eq]; omega
        have hall2 : ((s.drop p).take (k + 1)).all (fun c => decide (128 ≤ c.toNat)) = true := by
          have hli : k < (s.drop p).length := by omega
          have hD3 : decide (128 ≤ ((s.drop p)[k]).toNat) = true := by rw [← getD_at (d := 0) hli, getD_drop]; exact hD
          rw [List.take_add_one, List.all_append, hall, List.getElem?_eq_getElem hli, Option.toList_some, List.all_cons, hD3]; rfl
        simp only [sa0.down, sa1.down, sa2.down, sa3.down, sa4.down, sb0.down, sb1.down, sb2.down, sb3.down, ↓reduceIte, Nat.reduceEqDiff, Nat.reduceLT, Nat.reduceLeDiff, Nat.reduceAdd, Nat.reduceSub, Int.reduceToNat, Nat.reduceDiv, Int.reduceLT, Int.reduceLE, Int.reduceNeg, Int.reduceBEq, Int.reduceBNe, Int.reduceAdd, Int.reduceSub, Nat.reduceBEq, reduceCtorEq, Nat.reduceMul, TEP, pvNilI, tis, ens, nts, Tryd.results19, h0, h1, h7, hd, hlt2, hD2, wrap_succ (show p + k < maxLen by omega)]
        exact ⟨⟨by omega, by omega⟩, .inl ⟨m - 1, by omega, k + 1, by omega, h0, h1, by simp only [sa0.down, sa1.down, sa2.down, sa3.down, sa4.down, sb0.down, sb1.down, sb2.down, sb3.down, ↓reduceIte, Nat.reduceEqDiff, Nat.reduceLT, Nat.reduceLeDiff, Nat.reduceAdd, Nat.reduceSub, Int.reduceToNat, Nat.reduceDiv, Int.reduceLT, Int.reduceLE, Int.reduceNeg, Int.reduceBEq, Int.reduceBNe, Int.reduceAdd, Int.reduceSub, Nat.reduceBEq, reduceCtorEq, Nat.reduceMul, TEP, pvNilI, tis, ens, nts, Tryd.results19]; rfl, hd, rfl, hall2⟩⟩
      | false =>
        have hD2 : decide ((127 : Int) < ((s.getD (p + k) 0).toNat : Int)) = false := by have := of_decide_eq_false hD; rw [decide_eq_false_iff_not]; omega
        have htl := fin (fun _ => by rw [getD_drop]; exact hD)
        have hne : (((p + k : Nat) : Int) == (s.length : Int)) = false := by rw [beq_eq_false_iff_ne]; omega
        rw [htl, if_neg (by omega)] at hu
        simp only [sa0.down, sa1.down, sa2.down, sa3.down, sa4.down, sb0.down, sb1.down, sb2.down, sb3.down, ↓reduceIte, Nat.reduceEqDiff, Nat.reduceLT, Nat.reduceLeDiff, Nat.reduceAdd, Nat.reduceSub, Int.reduceToNat, Nat.reduceDiv, Int.reduceLT, Int.reduceLE, Int.reduceNeg, Int.reduceBEq, Int.reduceBNe, Int.reduceAdd, Int.reduceSub, Nat.reduceBEq, reduceCtorEq, Nat.reduceMul, TEP, pvNilI, tis, ens, nts, Tryd.results19, h0, h1, h7, hd, hlt2, hD2, hne]
        refine ⟨⟨by omega, by omega⟩, ?_⟩
        have hLl : ((s.drop p).take (k + 1)).length = k + 1 := by rw [List.length_take]; omega
        have hsl : List.take (p + k + 1 - p) (List.drop p s) = (s.drop p).take (k + 1) := by rw [show p + k + 1 - p = k + 1 by omega]
        have hget : ∀ j, j < k + 1 → ((s.drop p).take (k + 1)).getD j 0 = s.getD (p + j) 0 := by
          intro j hj
          rw [List.getD_eq_getElem?_getD, List.getElem?_take, if_pos hj, ← List.getD_eq_getElem?_getD, getD_drop]
        generalize (s.drop p).take (k + 1) = L at hu hLl hsl hget
        refine awp_loop (fun m f h => ∃ j, m = j ∧ j ≤ k + 1 ∧ f.t 0 = .str s ∧ f.t 1 = vi p ∧ f.t 7 = vi ((p + k : Nat) : Int) ∧ f.t 8 = vi ((min (vgD (L.drop j)) 2147483648 : Nat) : Int) ∧ f.t 9 = vi ((p : Int) + (j : Nat) - 1) ∧ f.d = [] ∧ h = []) (k + 1) ⟨k + 1, rfl, Nat.le_refl _, h0, h1, h7, by rw [List.drop_eq_nil_of_le (by omega)]; rfl, by simp only [sa0.down, sa1.down, sa2.down, sa3.down, sa4.down, sb0.down, sb1.down, sb2.down, sb3.down, ↓reduceIte, Nat.reduceEqDiff, Nat.reduceLT, Nat.reduceLeDiff, Nat.reduceAdd, Nat.reduceSub, Int.reduceToNat, Nat.reduceDiv, Int.reduceLT, Int.reduceLE, Int.reduceNeg, Int.reduceBEq, Int.reduceBNe, Int.reduceAdd, Int.reduceSub, Nat.reduceBEq, reduceCtorEq, Nat.reduceMul, TEP, pvNilI, tis, ens, nts, Tryd.results19]; congr 1; omega, hd, rfl⟩ ?_
        rintro m f h ⟨j, rfl, hj, h0, h1, h7, h8, h9, hd, rfl⟩
        refine vc_ok mixed _ _ _ _ ?_
        by_cases hj0 : m = 0
        · have hge : decide ((p : Int) ≤ (p : Int) + (m : Nat) - 1) = false := by rw [decide_eq_false_iff_not]; omega
          subst hj0
          rw [List.drop_zero] at h8
          have hw : IntKind.i64.wrap (((p + k : Nat) : Int) + 1) = ((p + k + 1 : Nat) : Int) := wrap_succ (show p + k < maxLen by omega)
          simp only [sa0.down, sa1.down, sa2.down, sa3.down, sa4.down, sb0.down, sb1.down, sb2.down, sb3.down, ↓reduceIte, Nat.reduceEqDiff, Nat.reduceLT, Nat.reduceLeDiff, Nat.reduceAdd, Nat.reduceSub, Int.reduceToNat, Nat.reduceDiv, Int.reduceLT, Int.reduceLE, Int.reduceNeg, Int.reduceBEq, Int.reduceBNe, Int.reduceAdd, Int.reduceSub, Nat.reduceBEq, reduceCtorEq, Nat.reduceMul, TEP, pvNilI, tis, ens, nts, Tryd.results19, h0, h1, h7, h8, h9, hd, hge]
          refine ACalls.ev (ev_rdelta _) rfl ?_
          by_cases hv : vgD L ≤ 2147483647
          · have hmin : min (vgD L) 2147483648 = vgD L := by omega
            have hdv : deltaV ((vgD L : Nat) : Int) = (grp (vgD L), 0) := by
              unfold deltaV
              rw [if_pos (by simp [fitsB]; omega), Int.toNat_natCast]
            rw [hmin, hdv]
            by_cases hg : grp (vgD L) = L
            · have hb : (grp (vgD L) == L) = true := by simp [hg]
              rw [hu, if_pos ⟨hv, hg⟩]
              simp only [sa0.down, sa1.down, sa2.down, sa3.down, sa4.down, sb0.down, sb1.down, sb2.down, sb3.down, ↓reduceIte, Nat.reduceEqDiff, Nat.reduceLT, Nat.reduceLeDiff, Nat.reduceAdd, Nat.reduceSub, Int.reduceToNat, Nat.reduceDiv, Int.reduceLT, Int.reduceLE, Int.reduceNeg, Int.reduceBEq, Int.reduceBNe, Int.reduceAdd, Int.reduceSub, Nat.reduceBEq, reduceCtorEq, Nat.reduceMul, TEP, pvNilI, tis, ens, nts, Tryd.results19, h0, h1, h7, h8, h9, hd, hw, hsl, hb, hmin]
              exact ⟨⟨by omega, by omega, by omega⟩, Reif.eq rfl rfl⟩
            · have hb : (grp (vgD L) == L) = false := by simp [hg]
              rw [hu, if_neg (fun h => hg h.2)]
              simp only [sa0.down, sa1.down, sa2.down, sa3.down, sa4.down, sb0.down, sb1.down, sb2.down, sb3.down, ↓reduceIte, Nat.reduceEqDiff, Nat.reduceLT, Nat.reduceLeDiff, Nat.reduceAdd, Nat.reduceSub, Int.reduceToNat, Nat.reduceDiv, Int.reduceLT, Int.reduceLE, Int.reduceNeg, Int.reduceBEq, Int.reduceBNe, Int.reduceAdd, Int.reduceSub, Nat.reduceBEq, reduceCtorEq, Nat.reduceMul, TEP, pvNilI, tis, ens, nts, Tryd.results19, h0, h1, h7, h8, h9, hd, hw, hsl, hb, hmin]
              exact ⟨⟨by omega, by omega, by omega⟩, Reif.dat rfl⟩
          · have hmin : min (vgD L) 2147483648 = 2147483648 := by omega
            have hdv : deltaV ((2147483648 : Nat) : Int) = ([], 3) := rfl
            rw [hmin, hdv, hu, if_neg (fun h => hv h.1)]
            simp only [sa0.down, sa1.down, sa2.down, sa3.down, sa4.down, sb0.down, sb1.down, sb2.down, sb3.down, ↓reduceIte, Nat.reduceEqDiff, Nat.reduceLT, Nat.reduceLeDiff, Nat.reduceAdd, Nat.reduceSub, Int.reduceToNat, Nat.reduceDiv, Int.reduceLT, Int.reduceLE, Int.reduceNeg, Int.reduceBEq, Int.reduceBNe, Int.reduceAdd, Int.reduceSub, Nat.reduceBEq, reduceCtorEq, Nat.reduceMul, TEP, pvNilI, tis, ens, nts, Tryd.results19, h0, h1, h7, h8, h9, hd, hw]
            exact Reif.dat rfl
        · obtain ⟨j, rfl⟩ : ∃ j, m = j + 1 := ⟨m - 1, by omega⟩
          have h9 : f.t 9 = vi ((p + j : Nat) : Int) := by rw [h9]; congr 1; omega
          have hge : decide ((p : Int) ≤ ((p + j : Nat) : Int)) = true := by rw [decide_eq_true_eq]; omega
          have hvd : vgD (L.drop j) = (s.getD (p + j) 0).toNat % 128 + 128 * vgD (L.drop (j + 1)) := by
            rw [List.drop_eq_getElem_cons (show j < L.length by omega), vgD, ← getD_at (d := 0), hget j (by omega)]
          have hcl := (s.getD (p + j) 0).toNat_lt
          generalize vgD (L.drop (j + 1)) = v at h8 hvd
          have hw1 : IntKind.i64.wrap (128 * ((min v 2147483648 : Nat) : Int)) = ((128 * min v 2147483648 : Nat) : Int) := by rw [wrapn (by omega) (by omega)]; omega
          have hw2 : IntKind.i64.wrap (((s.getD (p + j) 0).toNat : Nat) : Int) = (((s.getD (p + j) 0).toNat : Nat) : Int) := wrapn (by omega) (by omega)
          have hw3 : (((s.getD (p + j) 0).toNat : Nat) : Int).tmod 128 = (((s.getD (p + j) 0).toNat % 128 : Nat) : Int) := rfl
          have hw4 : IntKind.i64.wrap (((128 * min v 2147483648 : Nat) : Int) + (((s.getD (p + j) 0).toNat % 128 : Nat) : Int)) = ((128 * min v 2147483648 + (s.getD (p + j) 0).toNat % 128 : Nat) : Int) := by rw [wrapn (by omega) (by omega)]; omega
          have hw5 : IntKind.i64.wrap (((p + j : Nat) : Int) - 1) = (p : Int) + (j : Nat) - 1 := by rw [wrapn (by omega) (by omega)]; omega
          simp only [sa0.down, sa1.down, sa2.down, sa3.down, sa4.down, sb0.down, sb1.down, sb2.down, sb3.down, ↓reduceIte, Nat.reduceEqDiff, Nat.reduceLT, Nat.reduceLeDiff, Nat.reduceAdd, Nat.reduceSub, Int.reduceToNat, Nat.reduceDiv, Int.reduceLT, Int.reduceLE, Int.reduceNeg, Int.reduceBEq, Int.reduceBNe, Int.reduceAdd, Int.reduceSub, Nat.reduceBEq, reduceCtorEq, Nat.reduceMul, TEP, pvNilI, tis, ens, nts, Tryd.results19, h0, h1, h7, h8, h9, hd, hge, hw1, conv53, hw2, hw3, hw4, hw5, pvMin]
          refine ⟨⟨by omega, by omega⟩, by decide, .inl ⟨j, by omega, j, rfl, by omega, by simp only [sa0.down, sa1.down, sa2.down, sa3.down, sa4.down, sb0.down, sb1.down, sb2.down, sb3.down, ↓reduceIte, Nat.reduceEqDiff, Nat.reduceLT, Nat.reduceLeDiff, Nat.reduceAdd, Nat.reduceSub, Int.reduceToNat, Nat.reduceDiv, Int.reduceLT, Int.reduceLE, Int.reduceNeg, Int.reduceBEq, Int.reduceBNe, Int.reduceAdd, Int.reduceSub, Nat.reduceBEq, reduceCtorEq, Nat.reduceMul, TEP, pvNilI, tis, ens, nts, Tryd.results19, h0], by simp only [sa0.down, sa1.down, sa2.down, sa3.down, sa4.down, sb0.down, sb1.down, sb2.down, sb3.down, ↓reduceIte, Nat.reduceEqDiff, Nat.reduceLT, Nat.reduceLeDiff, Nat.reduceAdd, Nat.reduceSub, Int.reduceToNat, Nat.reduceDiv, Int.reduceLT, Int.reduceLE, Int.reduceNeg, Int.reduceBEq, Int.reduceBNe, Int.reduceAdd, Int.reduceSub, Nat.reduceBEq, reduceCtorEq, Nat.reduceMul, TEP, pvNilI, tis, ens, nts, Tryd.results19, h1], by simp only [sa0.down, sa1.down, sa2.down, sa3.down, sa4.down, sb0.down, sb1.down, sb2.down, sb3.down, ↓reduceIte, Nat.reduceEqDiff, Nat.reduceLT, Nat.reduceLeDiff, Nat.reduceAdd, Nat.reduceSub, Int.reduceToNat, Nat.reduceDiv, Int.reduceLT, Int.reduceLE, Int.reduceNeg, Int.reduceBEq, Int.reduceBNe, Int.reduceAdd, Int.reduceSub, Nat.reduceBEq, reduceCtorEq, Nat.reduceMul, TEP, pvNilI, tis, ens, nts, Tryd.results19, h7], ?_, by simp only [sa0.down, sa1.down, sa2.down, sa3.down, sa4.down, sb0.down, sb1.down, sb2.down, sb3.down, ↓reduceIte, Nat.reduceEqDiff, Nat.reduceLT, Nat.reduceLeDiff, Nat.reduceAdd, Nat.reduceSub, Int.reduceToNat, Nat.reduceDiv, Int.reduceLT, Int.reduceLE, Int.reduceNeg, Int.reduceBEq, Int.reduceBNe, Int.reduceAdd, Int.reduceSub, Nat.reduceBEq, reduceCtorEq, Nat.reduceMul, TEP, pvNilI, tis, ens, nts, Tryd.results19], by simp only [sa0.down, sa1.down, sa2.down, sa3.down, sa4.down, sb0.down, sb1.down, sb2.down, sb3.down, ↓reduceIte, Nat.reduceEqDiff, Nat.reduceLT, Nat.reduceLeDiff, Nat.reduceAdd, Nat.reduceSub, Int.reduceToNat, Nat.reduceDiv, Int.reduceLT, Int.reduceLE, Int.reduceNeg, Int.reduceBEq, Int.reduceBNe, Int.reduceAdd, Int.reduceSub, Nat.reduceBEq, reduceCtorEq, Nat.reduceMul, TEP, pvNilI, tis, ens, nts, Tryd.results19, hd], rfl⟩⟩
          rw [hvd]
          simp only [sa0.down, sa1.down, sa2.down, sa3.down, sa4.down, sb0.down, sb1.down, sb2.down, sb3.down, ↓reduceIte, Nat.reduceEqDiff, Nat.reduceLT, Nat.reduceLeDiff, Nat.reduceAdd, Nat.reduceSub, Int.reduceToNat, Nat.reduceDiv, Int.reduceLT, Int.reduceLE, Int.reduceNeg, Int.reduceBEq, Int.reduceBNe, Int.reduceAdd, Int.reduceSub, Nat.reduceBEq, reduceCtorEq, Nat.reduceMul, TEP, pvNilI, tis, ens, nts, Tryd.results19]
          congr 1
          split <;> omega
    · have hlt2 : decide (((p + k : Nat) : Int) < (s.length : Int)) = false := by rw [decide_eq_false_iff_not]; omega
      have htl := fin (fun h => by omega)
      have hne : (((p + k : Nat) : Int) == (s.length : Int)) = true := by rw [beq_iff_eq]; omega
      rw [htl, if_pos (by omega)] at hu
      rw [hu]
      simp only [sa0.down, sa1.down, sa2.down, sa3.down, sa4.down, sb0.down, sb1.down, sb2.down, sb3.down, ↓reduceIte, Nat.reduceEqDiff, Nat.reduceLT, Nat.reduceLeDiff, Nat.reduceAdd, Nat.reduceSub, Int.reduceToNat, Nat.reduceDiv, Int.reduceLT, Int.reduceLE, Int.reduceNeg, Int.reduceBEq, Int.reduceBNe, Int.reduceAdd, Int.reduceSub, Nat.reduceBEq, reduceCtorEq, Nat.reduceMul, TEP, pvNilI, tis, ens, nts, Tryd.results19, h0, h1, h7, hd, hlt2, hne]
      exact Reif.dat rfl

end Go.Proofs.YtbikgbnhngmohaaDoor
