/- Functions of the program, part 9. -/
import Derived.Test.YtbikgbnhngmohaaDoorF8
set_option linter.unusedVariables false
set_option linter.unusedSimpArgs false
set_option linter.unnecessarySimpa false
namespace Go.Proofs.YtbikgbnhngmohaaDoor
open Go Go.Proofs Go.Abs Go.RowKit

theorem sub48 (c : UInt8) (h : isDig c = true) : IntKind.u8.wrap ((c.toNat : Int) - 48) = ((c.toNat - 48 : Nat) : Int) := by
  have := dig_rng h
  rw [IntKind.wrap_u8]; omega

theorem tw_take {l : By} {i : Nat} (hi : i ≤ l.length) (h1 : (l.take i).all isDig = true) (h2 : i < l.length → isDig (l.getD i 0) = false) : l.takeWhile isDig = l.take i := by
  have h3 := tw_len hi h1 h2
  have h4 := List.prefix_iff_eq_take.1 (List.takeWhile_prefix (l := l) isDig)
  rw [h3] at h4
  exact h4

set_option maxHeartbeats 4000000 in
theorem ev_rget (s : By) (a : Int) (hl : s.length ≤ 100000) : Ev TE 13 [.str s, vi a] (.tup [vi (getR s a).1, vi (getR s a).2.1, vi (getR s a).2.2]) := by
  have hM : maxLen = 9223372036854775807 := rfl
  refine Ev.of_awp Tryd.func13 rfl (by simp [nts]) (vc_ok mixed _ _ _ _ ?_)
  simp only [sa0.down, sa1.down, sa2.down, sa3.down, sa4.down, sb0.down, sb1.down, sb2.down, sb3.down, ↓reduceIte, Nat.reduceEqDiff, Nat.reduceLT, Nat.reduceLeDiff, Nat.reduceAdd, Nat.reduceSub, Int.reduceToNat, Nat.reduceDiv, Int.reduceLT, Int.reduceLE, Int.reduceNeg, Int.reduceBEq, Int.reduceBNe, Int.reduceAdd, Int.reduceSub, Nat.reduceBEq, reduceCtorEq, Nat.reduceMul, TEP, pvNilI, tis, ens, nts, Tryd.results13]
  by_cases hc : a < 0 ∨ (s.length : Int) < a
  · have h1 : getR s a = (0, a, 3) := by unfold getR; rw [if_pos hc]
    have hb : (decide (0 ≤ a) && decide (a < (s.length : Int))) = false := by
      rw [Bool.and_eq_false_iff]
      simp only [decide_eq_false_iff_not]
      omega
    rw [h1]
    refine awp_loop (fun m f h => f.t 0 = .str s ∧ f.t 1 = vi a ∧ f.t 7 = vi 0 ∧ f.t 8 = vi a ∧ f.d = [] ∧ h = []) 0 ⟨rfl, rfl, rfl, rfl, rfl, rfl⟩ ?_
    rintro m f h ⟨h0, h1, h7, h8, hd, rfl⟩
    refine vc_ok mixed _ _ _ _ ?_
    simp only [sa0.down, sa1.down, sa2.down, sa3.down, sa4.down, sb0.down, sb1.down, sb2.down, sb3.down, ↓reduceIte, Nat.reduceEqDiff, Nat.reduceLT, Nat.reduceLeDiff, Nat.reduceAdd, Nat.reduceSub, Int.reduceToNat, Nat.reduceDiv, Int.reduceLT, Int.reduceLE, Int.reduceNeg, Int.reduceBEq, Int.reduceBNe, Int.reduceAdd, Int.reduceSub, Nat.reduceBEq, reduceCtorEq, Nat.reduceMul, TEP, pvNilI, tis, ens, nts, Tryd.results13, h0, h1, h7, h8, hd, hb]
    refine ⟨.bool true, ?_⟩
    simp only [sa0.down, sa1.down, sa2.down, sa3.down, sa4.down, sb0.down, sb1.down, sb2.down, sb3.down, ↓reduceIte, Nat.reduceEqDiff, Nat.reduceLT, Nat.reduceLeDiff, Nat.reduceAdd, Nat.reduceSub, Int.reduceToNat, Nat.reduceDiv, Int.reduceLT, Int.reduceLE, Int.reduceNeg, Int.reduceBEq, Int.reduceBNe, Int.reduceAdd, Int.reduceSub, Nat.reduceBEq, reduceCtorEq, Nat.reduceMul, TEP, pvNilI, tis, ens, nts, Tryd.results13, h0, h1, h7, h8, hd, beq_self_eq_true]
    exact Reif.dat rfl
  · obtain ⟨p, rfl⟩ : ∃ p : Nat, a = p := ⟨a.toNat, by omega⟩
    have hp : p ≤ s.length := by omega
    have hdl : (s.drop p).length = s.length - p := List.length_drop
    refine awp_loop (fun m f h => ∃ i, m + i = s.length - p ∧ f.t 0 = .str s ∧ f.t 1 = vi p ∧ f.t 7 = vi (min (valA 0 ((s.drop p).take i)) 2147483648 : Nat) ∧ f.t 8 = vi ((p + i : Nat) : Int) ∧ f.d = [] ∧ h = [] ∧ ((s.drop p).take i).all isDig = true) (s.length - p) ⟨0, by omega, rfl, rfl, rfl, rfl, rfl, rfl, by simp⟩ ?_
    rintro m f h ⟨i, hm, h0, h1, h7, h8, hd, rfl, hall⟩
    have hge : decide ((0 : Int) ≤ ((p + i : Nat) : Int)) = true := by rw [decide_eq_true_eq]; omega
    refine vc_ok mixed _ _ _ _ ?_
    by_cases hlt : i < s.length - p
    · have hlt2 : decide (((p + i : Nat) : Int) < (s.length : Int)) = true := by rw [decide_eq_true_eq]; omega
      simp only [sa0.down, sa1.down, sa2.down, sa3.down, sa4.down, sb0.down, sb1.down, sb2.down, sb3.down, ↓reduceIte, Nat.reduceEqDiff, Nat.reduceLT, Nat.reduceLeDiff, Nat.reduceAdd, Nat.reduceSub, Int.reduceToNat, Nat.reduceDiv, Int.reduceLT, Int.reduceLE, Int.reduceNeg, Int.reduceBEq, Int.reduceBNe, Int.reduceAdd, Int.reduceSub, Nat.reduceBEq, reduceCtorEq, Nat.reduceMul, TEP, pvNilI, tis, ens, nts, Tryd.results13, h0, h1, h7, h8, hd, hge, hlt2]
      refine ⟨⟨by omega, by omega⟩, ACalls.ev (ev_rdigit _) rfl ?_⟩
      cases hD : isDig (s.getD (p + i) 0) with
      | true =>
        have hli : i < (s.drop p).length := by omega
        have hD2 : isDig ((s.drop p)[i]) = true := by rw [← getD_at (d := 0) hli, getD_drop]; exact hD
        have hrg := dig_rng hD
        have htk : (s.drop p).take (i + 1) = (s.drop p).take i ++ [s.getD (p + i) 0] := by
          rw [List.take_add_one, List.getElem?_eq_getElem hli, Option.toList_some, ← getD_at (d := 0) hli, getD_drop]
        have hall2 : ((s.drop p).take (i + 1)).all isDig = true := by
          rw [htk, List.all_append, hall, List.all_cons, hD]; rfl
        have hval : valA 0 ((s.drop p).take (i + 1)) = 10 * valA 0 ((s.drop p).take i) + ((s.getD (p + i) 0).toNat - 48) := by
          rw [htk, valA_app]; rfl
        generalize valA 0 ((s.drop p).take i) = v at h7 hval
        have hw1 : IntKind.i64.wrap (10 * ((min v 2147483648 : Nat) : Int)) = ((10 * min v 2147483648 : Nat) : Int) := by rw [wrapn (by omega) (by omega)]; omega
        have hw2 : IntKind.i64.wrap (((s.getD (p + i) 0).toNat - 48 : Nat) : Int) = (((s.getD (p + i) 0).toNat - 48 : Nat) : Int) := wrapn (by omega) (by omega)
        have hw3 : IntKind.i64.wrap (((10 * min v 2147483648 : Nat) : Int) + (((s.getD (p + i) 0).toNat - 48 : Nat) : Int)) = ((10 * min v 2147483648 + ((s.getD (p + i) 0).toNat - 48) : Nat) : Int) := by rw [wrapn (by omega) (by omega)]; omega
        simp only [sa0.down, sa1.down, sa2.down, sa3.down, sa4.down, sb0.down, sb1.down, sb2.down, sb3.down, ↓reduceIte, Nat.reduceEqDiff, Nat.reduceLT, Nat.reduceLeDiff, Nat.reduceAdd, Nat.reduceSub, Int.reduceToNat, Nat.reduceDiv, Int.reduceLT, Int.reduceLE, Int.reduceNeg, Int.reduceBEq, Int.reduceBNe, Int.reduceAdd, Int.reduceSub, Nat.reduceBEq, reduceCtorEq, Nat.reduceMul, TEP, pvNilI, tis, ens, nts, Tryd.results13, h0, h1, h7, h8, hd, hw1, sub48 _ hD, conv53, hw2, hw3, wrap_succ (show p + i < maxLen by omega), pvMin]
        refine ⟨⟨by omega, by omega⟩, .inl ⟨m - 1, by omega, i + 1, by omega, by simp only [sa0.down, sa1.down, sa2.down, sa3.down, sa4.down, sb0.down, sb1.down, sb2.down, sb3.down, ↓reduceIte, Nat.reduceEqDiff, Nat.reduceLT, Nat.reduceLeDiff, Nat.reduceAdd, Nat.reduceSub, Int.reduceToNat, Nat.reduceDiv, Int.reduceLT, Int.reduceLE, Int.reduceNeg, Int.reduceBEq, Int.reduceBNe, Int.reduceAdd, Int.reduceSub, Nat.reduceBEq, reduceCtorEq, Nat.reduceMul, TEP, pvNilI, tis, ens, nts, Tryd.results13, h0], by simp only [sa0.down, sa1.down, sa2.down, sa3.down, sa4.down, sb0.down, sb1.down, sb2.down, sb3.down, ↓reduceIte, Nat.reduceEqDiff, Nat.reduceLT, Nat.reduceLeDiff, Nat.reduceAdd, Nat.reduceSub, Int.reduceToNat, Nat.reduceDiv, Int.reduceLT, Int.reduceLE, Int.reduceNeg, Int.reduceBEq, Int.reduceBNe, Int.reduceAdd, Int.reduceSub, Nat.reduceBEq, reduceCtorEq, Nat.reduceMul, TEP, pvNilI, tis, ens, nts, Tryd.results13, h1], ?_, by simp only [sa0.down, sa1.down, sa2.down, sa3.down, sa4.down, sb0.down, sb1.down, sb2.down, sb3.down, ↓reduceIte, Nat.reduceEqDiff, Nat.reduceLT, Nat.reduceLeDiff, Nat.reduceAdd, Nat.reduceSub, Int.reduceToNat, Nat.reduceDiv, Int.reduceLT, Int.reduceLE, Int.reduceNeg, Int.reduceBEq, Int.reduceBNe, Int.reduceAdd, Int.reduceSub, Nat.reduceBEq, reduceCtorEq, Nat.reduceMul, TEP, pvNilI, tis, ens, nts, Tryd.results13]; rfl, by simp only [sa0.down, sa1.down, sa2.down, sa3.down, sa4.down, sb0.down, sb1.down, sb2.down, sb3.down, ↓reduceIte, Nat.reduceEqDiff, Nat.reduceLT, Nat.reduceLeDiff, Nat.reduceAdd, Nat.reduceSub, Int.reduceToNat, Nat.reduceDiv, Int.reduceLT, Int.reduceLE, Int.reduceNeg, Int.reduceBEq, Int.reduceBNe, Int.reduceAdd, Int.reduceSub, Nat.reduceBEq, reduceCtorEq, Nat.reduceMul, TEP, pvNilI, tis, ens, nts, Tryd.results13, hd], rfl, hall2⟩⟩
        rw [hval]
        simp only [sa0.down, sa1.down, sa2.down, sa3.down, sa4.down, sb0.down, sb1.down, sb2.down, sb3.down, ↓reduceIte, Nat.reduceEqDiff, Nat.reduceLT, Nat.reduceLeDiff, Nat.reduceAdd, Nat.reduceSub, Int.reduceToNat, Nat.reduceDiv, Int.reduceLT, Int.reduceLE, Int.reduceNeg, Int.reduceBEq, Int.reduceBNe, Int.reduceAdd, Int.reduceSub, Nat.reduceBEq, reduceCtorEq, Nat.reduceMul, TEP, pvNilI, tis, ens, nts, Tryd.results13]
        congr 1
        split <;> omega
      | false =>
        have hstop : i < (s.drop p).length → isDig ((s.drop p).getD i 0) = false := fun _ => by rw [getD_drop]; exact hD
        simp only [sa0.down, sa1.down, sa2.down, sa3.down, sa4.down, sb0.down, sb1.down, sb2.down, sb3.down, ↓reduceIte, Nat.reduceEqDiff, Nat.reduceLT, Nat.reduceLeDiff, Nat.reduceAdd, Nat.reduceSub, Int.reduceToNat, Nat.reduceDiv, Int.reduceLT, Int.reduceLE, Int.reduceNeg, Int.reduceBEq, Int.reduceBNe, Int.reduceAdd, Int.reduceSub, Nat.reduceBEq, reduceCtorEq, Nat.reduceMul, TEP, pvNilI, tis, ens, nts, Tryd.results13, h0, h1, h7, h8, hd]
        have hds := tw_take (l := s.drop p) (i := i) (by omega) hall hstop
        have hdl2 : ((s.drop p).take i).length = i := by rw [List.length_take]; omega
        have hdg : ∀ c ∈ (s.drop p).take i, isDig c = true := List.all_eq_true.1 hall
        have hgr : getR s p = if (s.drop p).take i ≠ [] ∧ good ((s.drop p).take i) then (((valA 0 ((s.drop p).take i) : Nat) : Int), (p : Int) + (i : Nat), (0 : Int)) else (0, (p : Int), 3) := by
          unfold getR
          rw [if_neg hc, Int.toNat_natCast, hds, hdl2]
        have hhead : 0 < i → ((s.drop p).take i).head? = some (s.getD p 0) := by
          intro h
          rw [List.head?_take, if_neg (by omega), List.head?_drop, List.getElem?_eq_getElem (by omega), getD_at (by omega)]
        by_cases hi0 : i = 0
        · have hb1 : (((p + i : Nat) : Int) == (p : Int)) = true := by subst hi0; simp
          have hgr : getR s p = (0, (p : Int), 3) := by
            rw [hgr, if_neg]
            rintro ⟨h, _⟩
            exact h (List.length_eq_zero_iff.1 (by omega))
          rw [hgr]
          simp only [sa0.down, sa1.down, sa2.down, sa3.down, sa4.down, sb0.down, sb1.down, sb2.down, sb3.down, ↓reduceIte, Nat.reduceEqDiff, Nat.reduceLT, Nat.reduceLeDiff, Nat.reduceAdd, Nat.reduceSub, Int.reduceToNat, Nat.reduceDiv, Int.reduceLT, Int.reduceLE, Int.reduceNeg, Int.reduceBEq, Int.reduceBNe, Int.reduceAdd, Int.reduceSub, Nat.reduceBEq, reduceCtorEq, Nat.reduceMul, TEP, pvNilI, tis, ens, nts, Tryd.results13, h0, h1, h7, h8, hd, hb1]
          exact Reif.dat rfl
        · have hb1 : (((p + i : Nat) : Int) == (p : Int)) = false := by rw [beq_eq_false_iff_ne]; omega
          have hne : (s.drop p).take i ≠ [] := by intro h; rw [h] at hdl2; simp at hdl2; omega
          have hcan := dec_canon ((s.drop p).take i) hdg hne
          rw [hhead (by omega), hdl2] at hcan
          generalize (s.drop p).take i = ds at *
          by_cases hv : valA 0 ds ≤ 2147483647
          · have hmin : min (valA 0 ds) 2147483648 = valA 0 ds := by omega
            rw [hmin] at h7
            have hb2 : decide ((2147483647 : Int) < ((valA 0 ds : Nat) : Int)) = false := by rw [decide_eq_false_iff_not]; omega
            have hb4 : IntKind.i64.wrap ((p : Int) + 1) = ((p + 1 : Nat) : Int) := by rw [wrapn (by omega) (by omega)]; omega
            by_cases hz : s.getD p 0 = 48
            · have hb3 : ((((s.getD p 0).toNat : Nat) : Int) == 48) = true := by rw [hz]; rfl
              by_cases hi1 : 1 < i
              · have hb5 : decide (((p + 1 : Nat) : Int) < ((p + i : Nat) : Int)) = true := by rw [decide_eq_true_eq]; omega
                rw [hgr, if_neg (fun h => hcan.1 h.2.2 ⟨by rw [hz], hi1⟩)]
                simp only [sa0.down, sa1.down, sa2.down, sa3.down, sa4.down, sb0.down, sb1.down, sb2.down, sb3.down, ↓reduceIte, Nat.reduceEqDiff, Nat.reduceLT, Nat.reduceLeDiff, Nat.reduceAdd, Nat.reduceSub, Int.reduceToNat, Nat.reduceDiv, Int.reduceLT, Int.reduceLE, Int.reduceNeg, Int.reduceBEq, Int.reduceBNe, Int.reduceAdd, Int.reduceSub, Nat.reduceBEq, reduceCtorEq, Nat.reduceMul, TEP, pvNilI, tis, ens, nts, Tryd.results13, h0, h1, h7, h8, hd, hmin, hb1, hb2, hb3, hb4, hb5]
                exact ⟨⟨by omega, by omega⟩, Reif.dat rfl⟩
              · have hb5 : decide (((p + 1 : Nat) : Int) < ((p + i : Nat) : Int)) = false := by rw [decide_eq_false_iff_not]; omega
                rw [hgr, if_pos ⟨hne, hv, hcan.2 (fun h => hi1 h.2)⟩]
                simp only [sa0.down, sa1.down, sa2.down, sa3.down, sa4.down, sb0.down, sb1.down, sb2.down, sb3.down, ↓reduceIte, Nat.reduceEqDiff, Nat.reduceLT, Nat.reduceLeDiff, Nat.reduceAdd, Nat.reduceSub, Int.reduceToNat, Nat.reduceDiv, Int.reduceLT, Int.reduceLE, Int.reduceNeg, Int.reduceBEq, Int.reduceBNe, Int.reduceAdd, Int.reduceSub, Nat.reduceBEq, reduceCtorEq, Nat.reduceMul, TEP, pvNilI, tis, ens, nts, Tryd.results13, h0, h1, h7, h8, hd, hmin, hb1, hb2, hb3, hb4, hb5]
                exact ⟨⟨by omega, by omega⟩, Reif.eq rfl rfl⟩
            · have hb3 : ((((s.getD p 0).toNat : Nat) : Int) == 48) = false := by
                rw [beq_eq_false_iff_ne]
                intro h
                exact hz (by rw [← UInt8.toNat_inj]; show _ = 48; omega)
              rw [hgr, if_pos ⟨hne, hv, hcan.2 (fun h => hz (by simpa using h.1))⟩]
              simp only [sa0.down, sa1.down, sa2.down, sa3.down, sa4.down, sb0.down, sb1.down, sb2.down, sb3.down, ↓reduceIte, Nat.reduceEqDiff, Nat.reduceLT, Nat.reduceLeDiff, Nat.reduceAdd, Nat.reduceSub, Int.reduceToNat, Nat.reduceDiv, Int.reduceLT, Int.reduceLE, Int.reduceNeg, Int.reduceBEq, Int.reduceBNe, Int.reduceAdd, Int.reduceSub, Nat.reduceBEq, reduceCtorEq, Nat.reduceMul, TEP, pvNilI, tis, ens, nts, Tryd.results13, h0, h1, h7, h8, hd, hmin, hb1, hb2, hb3, hb4]
              exact ⟨⟨by omega, by omega⟩, Reif.eq rfl rfl⟩
          · have hmin : min (valA 0 ds) 2147483648 = 2147483648 := by omega
            rw [hmin] at h7
            have hb2 : decide ((2147483647 : Int) < ((2147483648 : Nat) : Int)) = true := by decide
            rw [hgr, if_neg (fun h => hv h.2.1)]
            simp only [sa0.down, sa1.down, sa2.down, sa3.down, sa4.down, sb0.down, sb1.down, sb2.down, sb3.down, ↓reduceIte, Nat.reduceEqDiff, Nat.reduceLT, Nat.reduceLeDiff, Nat.reduceAdd, Nat.reduceSub, Int.reduceToNat, Nat.reduceDiv, Int.reduceLT, Int.reduceLE, Int.reduceNeg, Int.reduceBEq, Int.reduceBNe, Int.reduceAdd, Int.reduceSub, Nat.reduceBEq, reduceCtorEq, Nat.reduceMul, TEP, pvNilI, tis, ens, nts, Tryd.results13, h0, h1, h7, h8, hd, hmin, hb1, hb2]
            exact Reif.dat rfl
    · have hlt2 : decide (((p + i : Nat) : Int) < (s.length : Int)) = false := by rw [decide_eq_false_iff_not]; omega
      simp only [sa0.down, sa1.down, sa2.down, sa3.down, sa4.down, sb0.down, sb1.down, sb2.down, sb3.down, ↓reduceIte, Nat.reduceEqDiff, Nat.reduceLT, Nat.reduceLeDiff, Nat.reduceAdd, Nat.reduceSub, Int.reduceToNat, Nat.reduceDiv, Int.reduceLT, Int.reduceLE, Int.reduceNeg, Int.reduceBEq, Int.reduceBNe, Int.reduceAdd, Int.reduceSub, Nat.reduceBEq, reduceCtorEq, Nat.reduceMul, TEP, pvNilI, tis, ens, nts, Tryd.results13, h0, h1, h7, h8, hd, hge, hlt2]
      refine ⟨.bool true, ?_⟩
      have hi : i = s.length - p := by omega
      have hstop : i < (s.drop p).length → isDig ((s.drop p).getD i 0) = false := fun h => by omega
      simp only [sa0.down, sa1.down, sa2.down, sa3.down, sa4.down, sb0.down, sb1.down, sb2.down, sb3.down, ↓reduceIte, Nat.reduceEqDiff, Nat.reduceLT, Nat.reduceLeDiff, Nat.reduceAdd, Nat.reduceSub, Int.reduceToNat, Nat.reduceDiv, Int.reduceLT, Int.reduceLE, Int.reduceNeg, Int.reduceBEq, Int.reduceBNe, Int.reduceAdd, Int.reduceSub, Nat.reduceBEq, reduceCtorEq, Nat.reduceMul, TEP, pvNilI, tis, ens, nts, Tryd.results13, h0, h1, h7, h8, hd]
      have hds := tw_take (l := s.drop p) (i := i) (by omega) hall hstop
      have hdl2 : ((s.drop p).take i).length = i := by rw [List.length_take]; omega
      have hdg : ∀ c ∈ (s.drop p).take i, isDig c = true := List.all_eq_true.1 hall
      have hgr : getR s p = if (s.drop p).take i ≠ [] ∧ good ((s.drop p).take i) then (((valA 0 ((s.drop p).take i) : Nat) : Int), (p : Int) + (i : Nat), (0 : Int)) else (0, (p : Int), 3) := by
        unfold getR
        rw [if_neg hc, Int.toNat_natCast, hds, hdl2]
      have hhead : 0 < i → ((s.drop p).take i).head? = some (s.getD p 0) := by
        intro h
        rw [List.head?_take, if_neg (by omega), List.head?_drop, List.getElem?_eq_getElem (by omega), getD_at (by omega)]
      by_cases hi0 : i = 0
      · have hb1 : (((p + i : Nat) : Int) == (p : Int)) = true := by subst hi0; simp
        have hgr : getR s p = (0, (p : Int), 3) := by
          rw [hgr, if_neg]
          rintro ⟨h, _⟩
          exact h (List.length_eq_zero_iff.1 (by omega))
        rw [hgr]
        simp only [sa0.down, sa1.down, sa2.down, sa3.down, sa4.down, sb0.down, sb1.down, sb2.down, sb3.down, ↓reduceIte, Nat.reduceEqDiff, Nat.reduceLT, Nat.reduceLeDiff, Nat.reduceAdd, Nat.reduceSub, Int.reduceToNat, Nat.reduceDiv, Int.reduceLT, Int.reduceLE, Int.reduceNeg, Int.reduceBEq, Int.reduceBNe, Int.reduceAdd, Int.reduceSub, Nat.reduceBEq, reduceCtorEq, Nat.reduceMul, TEP, pvNilI, tis, ens, nts, Tryd.results13, h0, h1, h7, h8, hd, hb1]
        exact Reif.dat rfl
      · have hb1 : (((p + i : Nat) : Int) == (p : Int)) = false := by rw [beq_eq_false_iff_ne]; omega
        have hne : (s.drop p).take i ≠ [] := by intro h; rw [h] at hdl2; simp at hdl2; omega
        have hcan := dec_canon ((s.drop p).take i) hdg hne
        rw [hhead (by omega), hdl2] at hcan
        generalize (s.drop p).take i = ds at *
        by_cases hv : valA 0 ds ≤ 2147483647
        · have hmin : min (valA 0 ds) 2147483648 = valA 0 ds := by omega
          rw [hmin] at h7
          have hb2 : decide ((2147483647 : Int) < ((valA 0 ds : Nat) : Int)) = false := by rw [decide_eq_false_iff_not]; omega
          have hb4 : IntKind.i64.wrap ((p : Int) + 1) = ((p + 1 : Nat) : Int) := by rw [wrapn (by omega) (by omega)]; omega
          by_cases hz : s.getD p 0 = 48
          · have hb3 : ((((s.getD p 0).toNat : Nat) : Int) == 48) = true := by rw [hz]; rfl
            by_cases hi1 : 1 < i
            · have hb5 : decide (((p + 1 : Nat) : Int) < ((p + i : Nat) : Int)) = true := by rw [decide_eq_true_eq]; omega
              rw [hgr, if_neg (fun h => hcan.1 h.2.2 ⟨by rw [hz], hi1⟩)]
              simp only [sa0.down, sa1.down, sa2.down, sa3.down, sa4.down, sb0.down, sb1.down, sb2.down, sb3.down, ↓reduceIte, Nat.reduceEqDiff, Nat.reduceLT, Nat.reduceLeDiff, Nat.reduceAdd, Nat.reduceSub, Int.reduceToNat, Nat.reduceDiv, Int.reduceLT, Int.reduceLE, Int.reduceNeg, Int.reduceBEq, Int.reduceBNe, Int.reduceAdd, Int.reduceSub, Nat.reduceBEq, reduceCtorEq, Nat.reduceMul, TEP, pvNilI, tis, ens, nts, Tryd.results13, h0, h1, h7, h8, hd, hmin, hb1, hb2, hb3, hb4, hb5]
              exact ⟨⟨by omega, by omega⟩, Reif.dat rfl⟩
            · have hb5 : decide (((p + 1 : Nat) : Int) < ((p + i : Nat) : Int)) = false := by rw [decide_eq_false_iff_not]; omega
              rw [hgr, if_pos ⟨hne, hv, hcan.2 (fun h => hi1 h.2)⟩]
              simp only [sa0.down, sa1.down, sa2.down, sa3.down, sa4.down, sb0.down, sb1.down, sb2.down, sb3.down, ↓reduceIte, Nat.reduceEqDiff, Nat.reduceLT, Nat.reduceLeDiff, Nat.reduceAdd, Nat.reduceSub, Int.reduceToNat, Nat.reduceDiv, Int.reduceLT, Int.reduceLE, Int.reduceNeg, Int.reduceBEq, Int.reduceBNe, Int.reduceAdd, Int.reduceSub, Nat.reduceBEq, reduceCtorEq, Nat.reduceMul, TEP, pvNilI, tis, ens, nts, Tryd.results13, h0, h1, h7, h8, hd, hmin, hb1, hb2, hb3, hb4, hb5]
              exact ⟨⟨by omega, by omega⟩, Reif.eq rfl rfl⟩
          · have hb3 : ((((s.getD p 0).toNat : Nat) : Int) == 48) = false := by
              rw [beq_eq_false_iff_ne]
              intro h
              exact hz (by rw [← UInt8.toNat_inj]; show _ = 48; omega)
            rw [hgr, if_pos ⟨hne, hv, hcan.2 (fun h => hz (by simpa using h.1))⟩]
            simp only [sa0.down, sa1.down, sa2.down, sa3.down, sa4.down, sb0.down, sb1.down, sb2.down, sb3.down, ↓reduceIte, Nat.reduceEqDiff, Nat.reduceLT, Nat.reduceLeDiff, Nat.reduceAdd, Nat.reduceSub, Int.reduceToNat, Nat.reduceDiv, Int.reduceLT, Int.reduceLE, Int.reduceNeg, Int.reduceBEq, Int.reduceBNe, Int.reduceAdd, Int.reduceSub, Nat.reduceBEq, reduceCtorEq, Nat.reduceMul, TEP, pvNilI, tis, ens, nts, Tryd.results13, h0, h1, h7, h8, hd, hmin, hb1, hb2, hb3, hb4]
            exact ⟨⟨by omega, by omega⟩, Reif.eq rfl rfl⟩
        · have hmin : min (valA 0 ds) 2147483648 = 2147483648 := by omega
          rw [hmin] at h7
          have hb2 : decide ((2147483647 : Int) < ((2147483648 : Nat) : Int)) = true := by decide
          rw [hgr, if_neg (fun h => hv h.2.1)]
          simp only [sa0.down, sa1.down, sa2.down, sa3.down, sa4.down, sb0.down, sb1.down, sb2.down, sb3.down, ↓reduceIte, Nat.reduceEqDiff, Nat.reduceLT, Nat.reduceLeDiff, Nat.reduceAdd, Nat.reduceSub, Int.reduceToNat, Nat.reduceDiv, Int.reduceLT, Int.reduceLE, Int.reduceNeg, Int.reduceBEq, Int.reduceBNe, Int.reduceAdd, Int.reduceSub, Nat.reduceBEq, reduceCtorEq, Nat.reduceMul, TEP, pvNilI, tis, ens, nts, Tryd.results13, h0, h1, h7, h8, hd, hmin, hb1, hb2]
          exact Reif.dat rfl

end Go.Proofs.YtbikgbnhngmohaaDoor
