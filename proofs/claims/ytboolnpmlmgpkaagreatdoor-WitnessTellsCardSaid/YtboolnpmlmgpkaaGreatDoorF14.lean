/- Functions of the program, part 14. -/
import Derived.Test.YtboolnpmlmgpkaaGreatDoorF08
set_option linter.unusedVariables false
set_option maxRecDepth 20000
set_option linter.unusedSimpArgs false
set_option linter.unnecessarySimpa false
namespace Go.Proofs.YtboolnpmlmgpkaaGreatDoor
open Go Go.Proofs Go.Abs

/-- What a model that is one brings. -/
theorem Mo.ndR {m : Mo} (h : m.chk = 0) : (m.ins ++ m.lat).Nodup ∧ m.out.Nodup := by
  have := (Mo.chk_parts h).2.2.2.1
  simpa [Mo.twos, twice, Bool.or_eq_false_iff] using this
theorem Wi.sameR (w : Wi) : w.same w = true := by simp [Wi.same]
theorem any_of_at {α : Type} {l : List α} {p : α → Bool} {i : Nat} (h : i < l.length) (hp : p l[i] = true) : l.any p = true := List.any_eq_true.2 ⟨_, List.getElem_mem h, hp⟩
theorem any_none {α : Type} {l : List α} {p : α → Bool} {i : Nat} (h : ¬ i < l.length) (hall : ∀ x ∈ l.take i, p x = false) : l.any p = false := by
  rw [List.take_of_length_le (by omega)] at hall
  exact List.any_eq_false.2 fun x hx => by rw [hall x hx]; decide

theorem ev_rvalues (l : Cl) : Ev TE 211 [ints l] (.bool (!l.any oddB)) := by
  refine Ev.bnd fun hb => ?_
  have hlen := ints_len hb
  refine Ev.of_awp Tryz.func211 rfl (by simp [nts]) (vc_ok mixed _ _ _ _ ?_)
  simp only [sz.down, Nat.reduceLT, TEP, nts, Tryz.results211]
  refine awp_loop (fun m f h => ∃ i, m + i = l.length ∧ f.t 0 = ints l ∧ f.t 3 = vi i ∧ f.d = [] ∧ ∀ x ∈ l.take i, oddB x = false) l.length ⟨0, by simp, rfl, rfl, rfl, by simp⟩ ?_
  rintro m f h ⟨i, hm, h0, h3, hd, hall⟩
  refine vc_ok mixed _ _ _ _ ?_
  simp only [sz.down, ↓reduceIte, Nat.reduceEqDiff, Nat.reduceLT, reduceCtorEq, TEP, tis, h0, h3]
  refine vcB.mk (fun hc => ?_) (fun hc => ?_)
  · simp only [decide_eq_true_eq, Int.ofNat_lt] at hc
    have hi := getI hc V.any
    have hw := wrap_succ (show i < maxLen by omega)
    cases h1 : decide (l[i] < 0) with
    | true =>
      simp only [sz.down, ↓reduceIte, Nat.reduceEqDiff, Nat.reduceLT, reduceCtorEq, TEP, tis, h0, h3, hd, hi, h1]
      refine ⟨⟨by omega, by omega⟩, Reif.eq rfl ?_⟩
      rw [any_of_at hc (by unfold oddB; rw [h1]; rfl)]; rfl
    | false =>
      cases h2 : decide (2 < l[i]) with
      | true =>
        simp only [sz.down, ↓reduceIte, Nat.reduceEqDiff, Nat.reduceLT, reduceCtorEq, TEP, tis, h0, h3, hd, hi, h1, h2]
        refine ⟨⟨by omega, by omega⟩, ⟨by omega, by omega⟩, ?_⟩
        refine Reif.eq rfl ?_
        rw [any_of_at hc (by unfold oddB; rw [h1, h2]; rfl)]; rfl
      | false =>
        simp only [sz.down, ↓reduceIte, Nat.reduceEqDiff, Nat.reduceLT, reduceCtorEq, TEP, tis, h0, h3, hi, h1, h2, hw]
        refine ⟨⟨by omega, by omega⟩, ⟨by omega, by omega⟩, .inl ⟨m - 1, by omega, i + 1, by omega, h0, rfl, hd, mem_take_succ hc hall (by unfold oddB; rw [h1, h2]; rfl)⟩⟩
  · simp only [decide_eq_false_iff_not, Int.ofNat_lt] at hc
    simp only [sz.down, ↓reduceIte, Nat.reduceLT, TEP, hd]
    refine Reif.eq rfl ?_
    rw [any_none hc hall]; rfl

theorem ev_rrows (w : Wi) (hl : w.steps.length ≤ 1000) : Ev TE 176 [w.v] (.bool (!w.steps.any (·.any oddB) && !w.st.any oddB)) := by
  have hM : maxLen = 9223372036854775807 := rfl
  unfold Wi.v
  refine Ev.of_awp Tryz.func176 rfl (by simp [nts]) (vc_ok mixed _ _ _ _ ?_)
  simp only [sz.down, Nat.reduceLT, TEP, nts, Tryz.results176]
  refine awp_loop (fun m f h => ∃ i, m + i = w.steps.length ∧ f.t 1 = .lp 0 0 ∧ f.t 3 = vi i ∧ f.d = [] ∧ h = [O.cells [vi w.bad, ints w.st, cls w.steps]] ∧ ∀ x ∈ w.steps.take i, x.any oddB = false) w.steps.length ⟨0, by simp, rfl, rfl, rfl, rfl, by simp⟩ ?_
  rintro m f h ⟨i, hm, h1, h3, hd, rfl, hall⟩
  refine vc_ok mixed _ _ _ _ ?_
  simp only [sz.down, ↓reduceIte, Nat.reduceEqDiff, Nat.reduceLT, Nat.reduceAdd, TEP, tis, h1, h3]
  refine vcB.mk (fun hc => ?_) (fun hc => ?_)
  · simp only [decide_eq_true_eq, Int.ofNat_lt] at hc
    have hi := getC hc V.any
    have hw := wrap_succ (show i < maxLen by omega)
    simp only [sz.down, ↓reduceIte, Nat.reduceEqDiff, Nat.reduceLT, Nat.reduceAdd, TEP, tis, ens, h1, h3, hi]
    refine ⟨⟨by omega, by omega⟩, ACalls.ev (ev_rvalues _) (by simp only [V.dats, datI, Bool.and_self]) ?_⟩
    cases hv : w.steps[i].any oddB with
    | true =>
      simp only [sz.down, ↓reduceIte, Nat.reduceLT, TEP, hd]
      refine Reif.eq rfl ?_
      rw [any_of_at (p := fun l : Cl => l.any oddB) hc hv]; rfl
    | false =>
      simp only [sz.down, ↓reduceIte, Nat.reduceEqDiff, Nat.reduceLT, TEP, h3, hw]
      exact .inl ⟨m - 1, by omega, i + 1, by omega, h1, rfl, hd, rfl, mem_take_succ hc hall hv⟩
  · simp only [decide_eq_false_iff_not, Int.ofNat_lt] at hc
    simp only [sz.down, ↓reduceIte, Nat.reduceEqDiff, Nat.reduceLT, Nat.reduceLeDiff, Nat.reduceAdd, TEP, tis, ens, h1]
    refine ACalls.ev (ev_rvalues _) (by simp only [V.dats, datI, Bool.and_self]) ?_
    simp only [sz.down, ↓reduceIte, Nat.reduceLT, TEP, hd]
    refine Reif.eq rfl ?_
    rw [any_none hc hall]; rfl

theorem sized_eq (m : Mo) (w : Wi) : Wi.sized m w = (!(decide (w.bad < 0) || (decide ((m.out.length : Int) ≤ w.bad) || (((w.st.length : Int) != (m.lat.length : Int)) || (decide ((w.steps.length : Int) < 1) || (decide (40 < (w.steps.length : Int)) || !(!w.steps.any (·.any oddB) && !w.st.any oddB)))))) && !w.steps.any (fun l => (l.length : Int) != (m.ins.length : Int))) := by
  rw [Bool.eq_iff_iff]
  unfold Wi.sized Mo.rowBad
  simp only [Bool.and_eq_true, decide_eq_true_eq, beq_iff_eq, Bool.not_eq_true', List.any_eq_false, Bool.or_eq_false_iff, bne_iff_ne, ne_eq, Bool.not_eq_true, decide_eq_false_iff_not, Bool.not_eq_false', Decidable.not_not, Bool.or_eq_true, not_or, bne_eq_false_iff_eq]
  constructor
  · rintro ⟨h1, h2, h3, h4, h5, h6, h7⟩
    exact ⟨⟨by omega, by omega, h3, by omega, by omega, fun l hl => (h7 l hl).2, h4⟩, fun l hl => (h7 l hl).1⟩
  · rintro ⟨⟨h1, h2, h3, h4, h5, h6, h7⟩, h8⟩
    exact ⟨by omega, by omega, h3, h7, by omega, by omega, fun l hl => ⟨h8 l hl, h6 l hl⟩⟩

theorem ev_rsizes (m : Mo) (w : Wi) (hl : w.steps.length ≤ 1000) : Ev TE 103 [m.v, w.v] (.bool (Wi.sized m w)) := by
  have hM : maxLen = 9223372036854775807 := rfl
  have hr := ev_rrows w hl
  rw [sized_eq]
  unfold Mo.v Wi.v at *
  refine Ev.of_awp Tryz.func103 rfl (by simp [nts]) (vc_ok mixed _ _ _ _ ?_)
  cases h1 : decide (w.bad < 0) with
  | true =>
    simp only [sz.down, ↓reduceIte, Nat.reduceEqDiff, Nat.reduceLT, Nat.reduceLeDiff, Nat.reduceAdd, reduceCtorEq, TEP, tis, nts, Tryz.results103, h1]
    repeat (refine ⟨.bool true, ?_⟩; simp only [sz.down, ↓reduceIte, Nat.reduceLT, TEP])
    exact Reif.dat rfl
  | false =>
  cases h2 : decide ((m.out.length : Int) ≤ w.bad) with
  | true =>
    simp only [sz.down, ↓reduceIte, Nat.reduceEqDiff, Nat.reduceLT, Nat.reduceLeDiff, Nat.reduceAdd, reduceCtorEq, TEP, tis, nts, Tryz.results103, h1, h2]
    repeat (refine ⟨.bool true, ?_⟩; simp only [sz.down, ↓reduceIte, Nat.reduceLT, TEP])
    exact Reif.dat rfl
  | false =>
  cases h3 : (w.st.length : Int) != (m.lat.length : Int) with
  | true =>
    simp only [sz.down, ↓reduceIte, Nat.reduceEqDiff, Nat.reduceLT, Nat.reduceLeDiff, Nat.reduceAdd, reduceCtorEq, TEP, tis, nts, Tryz.results103, h1, h2, h3]
    repeat (refine ⟨.bool true, ?_⟩; simp only [sz.down, ↓reduceIte, Nat.reduceLT, TEP])
    exact Reif.dat rfl
  | false =>
  cases h4 : decide ((w.steps.length : Int) < 1) with
  | true =>
    simp only [sz.down, ↓reduceIte, Nat.reduceEqDiff, Nat.reduceLT, Nat.reduceLeDiff, Nat.reduceAdd, reduceCtorEq, TEP, tis, nts, Tryz.results103, h1, h2, h3, h4]
    repeat (refine ⟨.bool true, ?_⟩; simp only [sz.down, ↓reduceIte, Nat.reduceLT, TEP])
    exact Reif.dat rfl
  | false =>
  cases h5 : decide (40 < (w.steps.length : Int)) with
  | true =>
    simp only [sz.down, ↓reduceIte, Nat.reduceEqDiff, Nat.reduceLT, Nat.reduceLeDiff, Nat.reduceAdd, reduceCtorEq, TEP, tis, nts, Tryz.results103, h1, h2, h3, h4, h5]
    repeat (refine ⟨.bool true, ?_⟩; simp only [sz.down, ↓reduceIte, Nat.reduceLT, TEP])
    exact Reif.dat rfl
  | false =>
  simp only [sz.down, ↓reduceIte, Nat.reduceEqDiff, Nat.reduceLT, Nat.reduceLeDiff, Nat.reduceAdd, reduceCtorEq, TEP, tis, ens, nts, Tryz.results103, h1, h2, h3, h4, h5]
  refine ACalls.ev hr (by simp only [V.dats, V.dat, Bool.and_self]) ?_
  cases h6 : (!w.steps.any (·.any oddB) && !w.st.any oddB) with
  | false =>
    simp only [sz.down, ↓reduceIte, Nat.reduceEqDiff, Nat.reduceLT, TEP]
    exact Reif.dat rfl
  | true =>
    simp only [sz.down, ↓reduceIte, Nat.reduceEqDiff, Nat.reduceLT, TEP]
    refine awp_loop (fun k f h => ∃ i, k + i = w.steps.length ∧ f.t 2 = .lp 0 0 ∧ f.t 3 = .lp 1 0 ∧ f.t 5 = vi i ∧ f.d = [] ∧ h = [O.cells [vi m.g.ins, ints m.g.next, ints m.g.init, prs m.g.ands, ints m.g.outs, strs m.ins, strs m.lat, strs m.out], O.cells [vi w.bad, ints w.st, cls w.steps]] ∧ ∀ x ∈ w.steps.take i, ((x.length : Int) != (m.ins.length : Int)) = false) w.steps.length ⟨0, by simp, by simp only [sz.down, ↓reduceIte, Nat.reduceEqDiff], by simp only [sz.down, ↓reduceIte, Nat.reduceEqDiff], by simp only [sz.down, ↓reduceIte]; rfl, by simp only [sz.down], rfl, by simp⟩ ?_
    rintro k f h ⟨i, hk, h2, h3, h5, hd, rfl, hall⟩
    refine vc_ok mixed _ _ _ _ ?_
    simp only [sz.down, ↓reduceIte, Nat.reduceEqDiff, Nat.reduceLT, Nat.reduceAdd, TEP, tis, h3, h5]
    refine vcB.mk (fun hc => ?_) (fun hc => ?_)
    · simp only [decide_eq_true_eq, Int.ofNat_lt] at hc
      have hi := getC hc V.any
      have hw := wrap_succ (show i < maxLen by omega)
      cases hv : ((w.steps[i].length : Int) != (m.ins.length : Int)) with
      | true =>
        simp only [sz.down, ↓reduceIte, Nat.reduceEqDiff, Nat.reduceLT, Nat.reduceLeDiff, Nat.reduceAdd, TEP, tis, h2, h3, h5, hd, hi, hv]
        refine ⟨by decide +kernel, ⟨by omega, by omega⟩, Reif.eq rfl ?_⟩
        rw [any_of_at (p := fun l : Cl => (l.length : Int) != (m.ins.length : Int)) hc hv]; rfl
      | false =>
        simp only [sz.down, ↓reduceIte, Nat.reduceEqDiff, Nat.reduceLT, Nat.reduceLeDiff, Nat.reduceAdd, TEP, tis, h2, h3, h5, hi, hv, hw]
        exact ⟨by decide +kernel, ⟨by omega, by omega⟩, .inl ⟨k - 1, by omega, i + 1, by omega, h2, h3, rfl, hd, rfl, mem_take_succ hc hall hv⟩⟩
    · simp only [decide_eq_false_iff_not, Int.ofNat_lt] at hc
      simp only [sz.down, ↓reduceIte, Nat.reduceLT, TEP, hd]
      refine Reif.eq rfl ?_
      rw [any_none hc hall]; rfl

theorem ev_rliteral (a n : Int) (h0 : -1000000 ≤ n) (h1 : n ≤ 1000000) : Ev TE 201 [vi a, vi n] (.bool (!oddL (2 * n) a)) := by
  have hw : IntKind.i64.wrap (2 * n) = 2 * n := wrap64 (by omega) (by omega)
  refine Ev.of_awp Tryz.func201 rfl (by simp [nts]) (vc_ok mixed _ _ _ _ ?_)
  cases h1 : decide (0 ≤ a) with
  | true =>
    simp only [sz.down, ↓reduceIte, Nat.reduceEqDiff, Nat.reduceLT, reduceCtorEq, TEP, nts, Tryz.results201, h1, hw]
    refine Reif.eq rfl ?_
    unfold oddL
    simp only [decide_eq_true_eq] at h1
    rw [decide_eq_false (show ¬ a < 0 by omega)]
    by_cases h : a < 2 * n
    · rw [decide_eq_true h, decide_eq_false (show ¬ 2 * n ≤ a by omega)]; rfl
    · rw [decide_eq_false h, decide_eq_true (show 2 * n ≤ a by omega)]; rfl
  | false =>
    simp only [sz.down, ↓reduceIte, Nat.reduceEqDiff, Nat.reduceLT, reduceCtorEq, TEP, nts, Tryz.results201, h1]
    refine Reif.eq rfl ?_
    unfold oddL
    simp only [decide_eq_false_iff_not] at h1
    simp [show a < 0 by omega]

theorem ev_rfirst (g : Gr) (h0 : -1000000000 ≤ g.ins) (h1 : g.ins ≤ 1000000000) (h2 : g.next.length ≤ 1000000000) : Ev TE 81 [g.v] (vi g.first) := by
  unfold Gr.v Gr.first
  refine Ev.of_awp Tryz.func81 rfl (by simp [nts]) (vc_ok mixed _ _ _ _ ?_)
  simp only [sz.down, ↓reduceIte, Nat.reduceEqDiff, Nat.reduceLT, Nat.reduceLeDiff, Nat.reduceAdd, TEP, tis, nts, Tryz.results81]
  rw [wrapn (n := 1 + g.ins) (by omega) (by omega), wrapn (by omega) (by omega)]
  exact Reif.dat rfl

end Go.Proofs.YtboolnpmlmgpkaaGreatDoor

set_option linter.unusedVariables false
set_option maxRecDepth 20000
set_option linter.unusedSimpArgs false
set_option linter.unnecessarySimpa false
namespace Go.Proofs.YtboolnpmlmgpkaaGreatDoor
open Go Go.Proofs Go.Abs

theorem getPr {l : List Pr} {i : Nat} (h : i < l.length) (d : V) : (l.map prV).getD i d = prV l[i] := getD_map h d
theorem chk_row {g : Gr} (hl : g.lim = false) (h : g.oddR = true) : g.chk = 1 := by unfold Gr.chk; rw [if_neg (by simp [hl]), if_pos h]
theorem chk_and {g : Gr} (hl : g.lim = false) (h : g.oddAs g.ands.length = true) : g.chk = 1 := by
  unfold Gr.chk; rw [if_neg (by simp [hl])]
  by_cases hr : g.oddR = true
  · rw [if_pos hr]
  · rw [if_neg hr, if_pos h]
set_option maxHeartbeats 4000000 in
theorem ev_r9check (g : Gr) (bn : g.next.length ≤ 4000) (bi : g.init.length ≤ 4000) (ba : g.ands.length ≤ 4000) (bo : g.outs.length ≤ 4000) : Ev TE 157 [g.v] (vi g.chk) := by
  have hM : maxLen = 9223372036854775807 := rfl
  have hfi : g.lim = false → Ev TE 81 [g.v] (vi g.first) := fun h => by
    simp only [Gr.lim, Bool.or_eq_false_iff, decide_eq_false_iff_not] at h
    exact ev_rfirst g (by omega) (by omega) (by omega)
  unfold Gr.v at *
  refine Ev.of_awp Tryz.func157 rfl (by simp [nts]) (vc_ok mixed _ _ _ _ ?_)
  cases h1 : decide (g.ins < 0) with
  | true =>
    simp only [sz.down, ↓reduceIte, Nat.reduceEqDiff, Nat.reduceLT, Nat.reduceLeDiff, Nat.reduceAdd, reduceCtorEq, TEP, tis, nts, Tryz.results157, h1]
    repeat (refine ⟨.bool true, ?_⟩; simp only [sz.down, ↓reduceIte, Nat.reduceEqDiff, Nat.reduceLT, Nat.reduceLeDiff, Nat.reduceAdd, Nat.reduceSub, Int.reduceToNat, Nat.reduceDiv, Int.reduceLT, Int.reduceLE, Int.reduceNeg, Int.reduceBEq, Int.reduceBNe, Int.reduceAdd, Int.reduceSub, Nat.reduceBEq, reduceCtorEq, Nat.reduceMul, sp.down, pvNilI, Tryz.results157, h1])
    exact Reif.eq rfl (by unfold Gr.chk; rw [if_pos (by unfold Gr.lim; rw [h1]; rfl)])
  | false =>
  cases h2 : decide (4000 < g.ins) with
  | true =>
    simp only [sz.down, ↓reduceIte, Nat.reduceEqDiff, Nat.reduceLT, Nat.reduceLeDiff, Nat.reduceAdd, reduceCtorEq, TEP, tis, nts, Tryz.results157, h1, h2]
    repeat (refine ⟨.bool true, ?_⟩; simp only [sz.down, ↓reduceIte, Nat.reduceEqDiff, Nat.reduceLT, Nat.reduceLeDiff, Nat.reduceAdd, Nat.reduceSub, Int.reduceToNat, Nat.reduceDiv, Int.reduceLT, Int.reduceLE, Int.reduceNeg, Int.reduceBEq, Int.reduceBNe, Int.reduceAdd, Int.reduceSub, Nat.reduceBEq, reduceCtorEq, Nat.reduceMul, sp.down, pvNilI, Tryz.results157, h1, h2])
    exact Reif.eq rfl (by unfold Gr.chk; rw [if_pos (by unfold Gr.lim; rw [h1, h2]; rfl)])
  | false =>
  have g1 : 0 ≤ g.ins ∧ g.ins ≤ 4000 := by simp only [decide_eq_false_iff_not] at h1 h2; omega
  have w1 : IntKind.i64.wrap (g.ins + (g.next.length : Int)) = g.ins + g.next.length := wrap64 (by omega) (by omega)
  have w2 : IntKind.i64.wrap (g.ins + (g.next.length : Int) + (g.ands.length : Int)) = g.ins + g.next.length + g.ands.length := wrap64 (by omega) (by omega)
  cases h3 : decide (4000 < g.ins + (g.next.length : Int) + (g.ands.length : Int)) with
  | true =>
    simp only [sz.down, ↓reduceIte, Nat.reduceEqDiff, Nat.reduceLT, Nat.reduceLeDiff, Nat.reduceAdd, reduceCtorEq, TEP, tis, nts, Tryz.results157, h1, h2, w1, w2, h3]
    repeat (refine ⟨.bool true, ?_⟩; simp only [sz.down, ↓reduceIte, Nat.reduceEqDiff, Nat.reduceLT, Nat.reduceLeDiff, Nat.reduceAdd, Nat.reduceSub, Int.reduceToNat, Nat.reduceDiv, Int.reduceLT, Int.reduceLE, Int.reduceNeg, Int.reduceBEq, Int.reduceBNe, Int.reduceAdd, Int.reduceSub, Nat.reduceBEq, reduceCtorEq, Nat.reduceMul, sp.down, pvNilI, Tryz.results157, h1, h2, w1, w2, h3])
    exact Reif.eq rfl (by unfold Gr.chk; rw [if_pos (by unfold Gr.lim; rw [h1, h2, h3]; rfl)])
  | false =>
  cases h4 : decide (4000 < (g.outs.length : Int)) with
  | true =>
    simp only [sz.down, ↓reduceIte, Nat.reduceEqDiff, Nat.reduceLT, Nat.reduceLeDiff, Nat.reduceAdd, TEP, tis, nts, Tryz.results157, h1, h2, w1, w2, h3, h4]
    exact Reif.eq rfl (by unfold Gr.chk; rw [if_pos (by unfold Gr.lim; rw [h1, h2, h3, h4]; rfl)])
  | false =>
  have hl : g.lim = false := by unfold Gr.lim; rw [h1, h2, h3, h4]; rfl
  cases h5 : (g.init.length : Int) != (g.next.length : Int) with
  | true =>
    simp only [sz.down, ↓reduceIte, Nat.reduceEqDiff, Nat.reduceLT, Nat.reduceLeDiff, Nat.reduceAdd, TEP, tis, nts, Tryz.results157, h1, h2, w1, w2, h3, h4, h5]
    refine Reif.eq rfl ?_
    have h5' : (g.init.length != g.next.length) = true := by simp only [bne_iff_ne, ne_eq, Int.natCast_inj] at h5 ⊢; exact h5
    rw [chk_row hl (by unfold Gr.oddR; rw [h5']; rfl)]
  | false =>
  have h5' : (g.init.length != g.next.length) = false := by simp only [bne_eq_false_iff_eq, Int.natCast_inj] at h5 ⊢; exact h5
  have hil : g.init.length = g.next.length := by simpa using h5'
  have hf := hfi hl
  have wf : g.first = 1 + g.ins + g.next.length := rfl
  have wa : g.all = 2 * (g.first + g.ands.length) := rfl
  have w3 : IntKind.i64.wrap (g.first + (g.ands.length : Int)) = g.first + g.ands.length := wrap64 (by omega) (by omega)
  simp only [sz.down, ↓reduceIte, Nat.reduceEqDiff, Nat.reduceLT, Nat.reduceLeDiff, Nat.reduceAdd, reduceCtorEq, TEP, tis, nts, Tryz.results157, h1, h2, w1, w2, h3, h4, h5]
  refine ⟨by decide +kernel, vcEv.mk hf rfl (by simp only [V.dats, V.dat, Bool.and_self]) ?_⟩
  simp only [sz.down, ↓reduceIte, Nat.reduceEqDiff, Nat.reduceLT, Nat.reduceLeDiff, Nat.reduceAdd, TEP, tis, w3]
  have hlit := fun a : Int => ev_rliteral a (g.first + g.ands.length) (by omega) (by omega)
  rw [← wa] at hlit
  obtain ⟨A, hA⟩ : ∃ A : Int, A = g.first + g.ands.length := ⟨_, rfl⟩
  rw [← hA] at hlit
  rw [← hA]
  refine awp_loop (fun m f h => ∃ i, m + i = g.next.length ∧ f.t 1 = .lp 0 0 ∧ f.t 3 = vi A ∧ f.t 4 = vi i ∧ f.d = [] ∧ h = [O.cells [vi g.ins, ints g.next, ints g.init, prs g.ands, ints g.outs]] ∧ (∀ x ∈ g.next.take i, oddL g.all x = false) ∧ ∀ x ∈ g.init.take i, oddB x = false) g.next.length ⟨0, by simp, by simp only [sz.down, ↓reduceIte, Nat.reduceEqDiff], by simp only [sz.down, ↓reduceIte, Nat.reduceEqDiff], by simp only [sz.down, ↓reduceIte]; rfl, by simp only [sz.down], rfl, by simp, by simp⟩ ?_
  rintro m f h ⟨i, hm, k1, k3, k4, hd, rfl, hall, hall2⟩
  refine vc_ok mixed _ _ _ _ ?_
  simp only [sz.down, ↓reduceIte, Nat.reduceEqDiff, Nat.reduceLT, Nat.reduceLeDiff, Nat.reduceAdd, TEP, tis, k1, k4]
  refine vcB.mk (fun hc => ?_) (fun hc => ?_)
  · simp only [decide_eq_true_eq, Int.ofNat_lt] at hc
    have hc2 : i < g.init.length := by omega
    have gi := getI hc V.any
    have gi2 := getI hc2 V.any
    have hw := wrap_succ (show i < maxLen by omega)
    cases e1 : decide (g.init[i] < 0) with
    | true =>
      simp only [sz.down, ↓reduceIte, Nat.reduceEqDiff, Nat.reduceLT, Nat.reduceLeDiff, Nat.reduceAdd, reduceCtorEq, TEP, tis, k1, k3, k4, gi, gi2, e1]
      repeat (first | refine ⟨⟨by omega, by omega⟩, ?_⟩ | (refine ⟨.bool true, ?_⟩; simp only [sz.down, ↓reduceIte, Nat.reduceLT, TEP, hd]))
      refine Reif.eq rfl ?_
      rw [chk_row hl (by unfold Gr.oddR; rw [any_of_at (p := oddB) hc2 (by unfold oddB; rw [e1]; rfl)]; simp)]
    | false =>
    cases e2 : decide (2 < g.init[i]) with
    | true =>
      simp only [sz.down, ↓reduceIte, Nat.reduceEqDiff, Nat.reduceLT, Nat.reduceLeDiff, Nat.reduceAdd, reduceCtorEq, TEP, tis, k1, k3, k4, gi, gi2, e1, e2]
      repeat (first | refine ⟨⟨by omega, by omega⟩, ?_⟩ | (refine ⟨.bool true, ?_⟩; simp only [sz.down, ↓reduceIte, Nat.reduceLT, TEP, hd]))
      refine Reif.eq rfl ?_
      rw [chk_row hl (by unfold Gr.oddR; rw [any_of_at (p := oddB) hc2 (by unfold oddB; rw [e1, e2]; rfl)]; simp)]
    | false =>
      simp only [sz.down, ↓reduceIte, Nat.reduceEqDiff, Nat.reduceLT, Nat.reduceLeDiff, Nat.reduceAdd, TEP, tis, ens, k1, k3, k4, gi, gi2, e1, e2]
      refine ⟨⟨by omega, by omega⟩, ⟨by omega, by omega⟩, ⟨by omega, by omega⟩, ACalls.ev (hlit _) rfl ?_⟩
      cases e3 : oddL g.all g.next[i] with
      | true =>
        simp only [sz.down, ↓reduceIte, Nat.reduceEqDiff, Nat.reduceLT, TEP, hd]
        refine Reif.eq rfl ?_
        rw [chk_row hl (by unfold Gr.oddR; rw [any_of_at (p := oddL g.all) hc e3]; simp)]
      | false =>
        simp only [sz.down, ↓reduceIte, Nat.reduceEqDiff, Nat.reduceLT, TEP, k4, hw]
        exact .inl ⟨m - 1, by omega, i + 1, by omega, k1, k3, rfl, hd, rfl, mem_take_succ hc hall e3, mem_take_succ hc2 hall2 (by unfold oddB; rw [e1, e2]; rfl)⟩
  · simp only [decide_eq_false_iff_not, Int.ofNat_lt] at hc
    have r1 := any_none hc hall
    have r2 := any_none (p := oddB) (by omega) hall2
    simp only [sz.down, Nat.reduceLT, TEP]
    refine awp_loop (fun m f h => ∃ i, m + i = g.ands.length ∧ f.t 1 = .lp 0 0 ∧ f.t 3 = vi A ∧ f.t 5 = vi i ∧ f.d = [] ∧ h = [O.cells [vi g.ins, ints g.next, ints g.init, prs g.ands, ints g.outs]] ∧ g.oddAs i = false) g.ands.length ⟨0, by simp, by simp only [sz.down, ↓reduceIte, Nat.reduceEqDiff, k1], by simp only [sz.down, ↓reduceIte, Nat.reduceEqDiff, k3], by simp only [sz.down, ↓reduceIte]; rfl, by simp only [sz.down, hd], rfl, rfl⟩ ?_
    rintro m f h ⟨i, hm, k1, k3, k5, hd, rfl, hno⟩
    refine vc_ok mixed _ _ _ _ ?_
    simp only [sz.down, ↓reduceIte, Nat.reduceEqDiff, Nat.reduceLT, Nat.reduceLeDiff, Nat.reduceAdd, TEP, tis, k1, k5]
    refine vcB.mk (fun hc => ?_) (fun hc => ?_)
    · simp only [decide_eq_true_eq, Int.ofNat_lt] at hc
      have gi := getPr hc V.any
      have hw := wrap_succ (show i < maxLen by omega)
      have w4 : IntKind.i64.wrap (g.first + (i : Int)) = g.first + i := wrap64 (by omega) (by omega)
      have hlit := fun a : Int => ev_rliteral a (g.first + i) (by omega) (by omega)
      have hge : g.ands.getD i (0, 0) = g.ands[i] := getD_at hc
      have hext : ∀ b, oddA (2 * (g.first + i)) g.ands[i] = b → g.oddAs (i + 1) = b := fun b hb => by
        unfold Gr.oddAs at hno ⊢
        rw [List.range_succ, List.any_append, hno]
        simp only [List.any_cons, List.any_nil, Bool.or_false, Bool.false_or, hge, hb]
      have hbad : oddA (2 * (g.first + i)) g.ands[i] = true → g.chk = 1 := fun hb => by
        refine chk_and hl ?_
        have := hext _ hb
        unfold Gr.oddAs at this ⊢
        rw [List.any_eq_true] at this ⊢
        obtain ⟨x, hx, hy⟩ := this
        exact ⟨x, List.mem_range.2 (by have := List.mem_range.1 hx; omega), hy⟩
      have hodd : oddA (2 * (g.first + i)) g.ands[i] = (oddL (2 * (g.first + i)) g.ands[i].1 || oddL (2 * (g.first + i)) g.ands[i].2) := by
        unfold oddA oddL
        cases decide (g.ands[i].1 < 0) <;> cases decide (g.ands[i].2 < 0) <;> cases decide (2 * (g.first + (i : Int)) ≤ g.ands[i].1) <;> rfl
      simp only [sz.down, ↓reduceIte, Nat.reduceEqDiff, Nat.reduceLT, Nat.reduceAdd, reduceCtorEq, TEP, tis, ens, k1]
      refine ACalls.ev hf (by simp only [V.dats, V.dat, Bool.and_self]) ?_
      simp only [sz.down, ↓reduceIte, Nat.reduceEqDiff, Nat.reduceLT, Nat.reduceLeDiff, Nat.reduceAdd, Int.reduceLE, Nat.reduceMul, TEP, tis, ens, k1, k5, w4, gi]
      refine ⟨⟨by omega, by omega⟩, by decide, ACalls.ev (hlit _) rfl ?_⟩
      cases e3 : oddL (2 * (g.first + i)) g.ands[i].1 with
      | true =>
        simp only [sz.down, ↓reduceIte, Nat.reduceEqDiff, Nat.reduceLT, Nat.reduceLeDiff, Nat.reduceAdd, Int.reduceToNat, Int.reduceLE, reduceCtorEq, Nat.reduceMul, TEP, tis, k1, k5]
        repeat (refine ⟨.bool true, ?_⟩; simp only [sz.down, ↓reduceIte, Nat.reduceLT, TEP, hd])
        refine Reif.eq rfl ?_
        rw [hbad (by rw [hodd, e3]; rfl)]
      | false =>
        simp only [sz.down, ↓reduceIte, Nat.reduceEqDiff, Nat.reduceLT, Nat.reduceLeDiff, Nat.reduceAdd, Int.reduceToNat, Int.reduceLE, Nat.reduceMul, TEP, tis, ens, k1, k5, gi]
        refine ⟨⟨by omega, by omega⟩, by decide, ACalls.ev (hlit _) rfl ?_⟩
        cases e4 : oddL (2 * (g.first + i)) g.ands[i].2 with
        | true =>
          simp only [sz.down, ↓reduceIte, Nat.reduceEqDiff, Nat.reduceLT, TEP, hd]
          refine Reif.eq rfl ?_
          rw [hbad (by rw [hodd, e3, e4]; rfl)]
        | false =>
          simp only [sz.down, ↓reduceIte, Nat.reduceEqDiff, Nat.reduceLT, TEP, k5, hw]
          exact .inl ⟨m - 1, by omega, i + 1, by omega, k1, k3, rfl, hd, rfl, hext _ (by rw [hodd, e3, e4]; rfl)⟩
    · simp only [decide_eq_false_iff_not, Int.ofNat_lt] at hc
      have hi : i = g.ands.length := by omega
      rw [hi] at hno
      simp only [sz.down, Nat.reduceLT, TEP]
      refine awp_loop (fun m f h => ∃ i, m + i = g.outs.length ∧ f.t 1 = .lp 0 0 ∧ f.t 3 = vi A ∧ f.t 7 = vi i ∧ f.d = [] ∧ h = [O.cells [vi g.ins, ints g.next, ints g.init, prs g.ands, ints g.outs]] ∧ (∀ x ∈ g.outs.take i, oddL g.all x = false)) g.outs.length ⟨0, by simp, by simp only [sz.down, ↓reduceIte, Nat.reduceEqDiff, k1], by simp only [sz.down, ↓reduceIte, Nat.reduceEqDiff, k3], by simp only [sz.down, ↓reduceIte]; rfl, by simp only [sz.down, hd], rfl, by simp⟩ ?_
      rintro m f h ⟨i, hm, k1, k3, k7, hd, rfl, hall⟩
      refine vc_ok mixed _ _ _ _ ?_
      simp only [sz.down, ↓reduceIte, Nat.reduceEqDiff, Nat.reduceLT, Nat.reduceAdd, TEP, tis, k1, k7]
      refine vcB.mk (fun hc => ?_) (fun hc => ?_)
      · simp only [decide_eq_true_eq, Int.ofNat_lt] at hc
        have gi := getI hc V.any
        have hw := wrap_succ (show i < maxLen by omega)
        simp only [sz.down, ↓reduceIte, Nat.reduceEqDiff, Nat.reduceLT, Nat.reduceAdd, TEP, tis, ens, k1, k3, k7, gi]
        refine ⟨⟨by omega, by omega⟩, ACalls.ev (hlit _) rfl ?_⟩
        cases e3 : oddL g.all g.outs[i] with
        | true =>
          simp only [sz.down, ↓reduceIte, Nat.reduceLT, TEP, hd]
          refine Reif.eq rfl ?_
          rw [chk_row hl (by unfold Gr.oddR; rw [any_of_at (p := oddL g.all) hc e3]; simp)]
        | false =>
          simp only [sz.down, ↓reduceIte, Nat.reduceEqDiff, Nat.reduceLT, TEP, k7, hw]
          exact .inl ⟨m - 1, by omega, i + 1, by omega, k1, k3, rfl, hd, rfl, mem_take_succ hc hall e3⟩
      · simp only [decide_eq_false_iff_not, Int.ofNat_lt] at hc
        have r3 := any_none hc hall
        simp only [sz.down, ↓reduceIte, Nat.reduceLT, TEP, hd]
        refine Reif.eq rfl ?_
        unfold Gr.chk
        rw [if_neg (by simp [hl]), if_neg (by unfold Gr.oddR; rw [h5', r1, r2, r3]; decide), if_neg (by simp [hno])]

end Go.Proofs.YtboolnpmlmgpkaaGreatDoor

set_option linter.unusedVariables false
set_option maxRecDepth 20000
set_option linter.unusedSimpArgs false
set_option linter.unnecessarySimpa false
namespace Go.Proofs.YtboolnpmlmgpkaaGreatDoor
open Go Go.Proofs Go.Abs

theorem ev_r11names (l : List S) : Ev TE 172 [strs l] (.bool (!l.any noName)) := by
  refine Ev.bnd fun hb => ?_
  have hlen := strs_len hb
  refine Ev.of_awp Tryz.func172 rfl (by simp [nts]) (vc_ok mixed _ _ _ _ ?_)
  simp only [sz.down, Nat.reduceLT, TEP, nts, Tryz.results172]
  refine awp_loop (fun m f h => ∃ i, m + i = l.length ∧ f.t 0 = strs l ∧ f.t 3 = .int .i64 (i : Int) ∧ f.d = [] ∧ ∀ x ∈ l.take i, noName x = false) l.length ⟨0, by simp, rfl, rfl, rfl, by simp⟩ ?_
  rintro m f h ⟨i, hm, h0, h5, hd, hall⟩
  refine vc_ok mixed _ _ _ _ ?_
  simp only [sz.down, ↓reduceIte, Nat.reduceEqDiff, Nat.reduceLT, reduceCtorEq, TEP, tis, h0, h5]
  refine vcB.mk (fun hc => ?_) (fun hc => ?_)
  · simp only [decide_eq_true_eq, Int.ofNat_lt] at hc
    simp only [sz.down, ↓reduceIte, Nat.reduceEqDiff, Nat.reduceLT, reduceCtorEq, TEP, tis, ens, h0, h5, getS hc]
    refine ⟨⟨by omega, by omega⟩, ACalls.ev (ev_rname _) rfl ?_⟩
    cases hv : okName l[i] with
    | false =>
      simp only [sz.down, ↓reduceIte, Nat.reduceLT, TEP, hd]
      refine Reif.eq rfl ?_
      rw [any_of_at (p := noName) hc (by unfold noName; rw [hv]; rfl)]; rfl
    | true =>
      simp only [sz.down, ↓reduceIte, Nat.reduceEqDiff, Nat.reduceLT, TEP, h5, wrap_succ (show i < maxLen by omega)]
      exact .inl ⟨m - 1, by omega, i + 1, by omega, h0, rfl, hd, mem_take_succ hc hall (by unfold noName; rw [hv]; rfl)⟩
  · simp only [decide_eq_false_iff_not, Int.ofNat_lt] at hc
    simp only [sz.down, ↓reduceIte, Nat.reduceLT, TEP, hd]
    refine Reif.eq rfl ?_
    rw [any_none hc hall]; rfl

theorem ev_rnets (m : Mo) (hl : m.ins.length + m.lat.length ≤ 1000000) : Ev TE 174 [m.v] (strs (m.ins ++ m.lat)) := by
  have hM : maxLen = 9223372036854775807 := rfl
  unfold Mo.v
  refine Ev.of_awp Tryz.func174 rfl (by simp [nts]) (vc_ok mixed _ _ _ _ ?_)
  simp only [sz.down, ↓reduceIte, Nat.reduceEqDiff, Nat.reduceLT, Nat.reduceLeDiff, Nat.reduceAdd, TEP, tis, nts, Tryz.results174, allOne_s]
  refine ⟨⟨by omega, by show _ ≤ _; omega⟩, ⟨by omega, by omega, by show _ ≤ _; omega⟩, ?_⟩
  exact Reif.ls_strs (by rw [List.map_append]; rfl) (by simp)

theorem ev_r11place (m : Mo) (s : S) (hl : m.ins.length + m.lat.length ≤ 1000000) : Ev TE 175 [m.v, .str s] (vi (m.place s)) := by
  have hM : maxLen = 9223372036854775807 := rfl
  have hn := ev_rnets m hl
  unfold Mo.v at *
  unfold Mo.place
  obtain ⟨c, hcc⟩ : ∃ c, c = m.ins ++ m.lat := ⟨_, rfl⟩
  have hcl : c.length ≤ 1000000 := by rw [hcc, List.length_append]; exact hl
  simp only [← hcc] at hn ⊢
  refine Ev.of_awp Tryz.func175 rfl (by simp [nts]) (vc_ok mixed _ _ _ _ ?_)
  simp only [sz.down, ↓reduceIte, Nat.reduceEqDiff, Nat.reduceLT, Nat.reduceAdd, Int.reduceNeg, reduceCtorEq, TEP, tis, ens, nts, Tryz.results175]
  refine ACalls.ev hn (by simp only [V.dats, V.dat, Bool.and_self]) ?_
  simp only [sz.down, ↓reduceIte, Nat.reduceLT, Int.reduceNeg, TEP]
  refine awp_loop (fun m f h => ∃ i, m + i = c.length ∧ f.t 1 = .str s ∧ f.t 5 = strs c ∧ f.t 6 = .int .i64 (i : Int) ∧ f.d = [] ∧ ∀ x ∈ c.take i, (x == s) = false) c.length ⟨0, by simp, by simp only [sz.down, ↓reduceIte, Nat.reduceEqDiff], by simp only [sz.down, ↓reduceIte, Nat.reduceEqDiff], by simp only [sz.down, ↓reduceIte]; rfl, by simp only [sz.down], by simp⟩ ?_
  rintro m f h ⟨i, hm, h1, h5, h6, hd, hall⟩
  refine vc_ok mixed _ _ _ _ ?_
  simp only [sz.down, ↓reduceIte, Nat.reduceEqDiff, Nat.reduceLT, Int.reduceNeg, TEP, tis, h5, h6]
  refine vcB.mk (fun hc => ?_) (fun hc => ?_)
  · simp only [decide_eq_true_eq, Int.ofNat_lt] at hc
    simp only [sz.down, ↓reduceIte, Nat.reduceEqDiff, Nat.reduceLT, Int.reduceNeg, TEP, tis, h1, h5, h6, getS hc]
    refine ⟨⟨by omega, by omega⟩, ?_⟩
    cases hv : c[i] == s with
    | true =>
      simp only [sz.down, ↓reduceIte, Nat.reduceEqDiff, Nat.reduceLT, Int.reduceNeg, TEP, h6, hd, wrap_succ (show i < maxLen by omega)]
      refine Reif.eq rfl ?_
      have hix := idx_some hc hall hv
      simp only [hix]
      rw [if_neg (show ¬ (i : Int) < 0 by omega)]
      exact congrArg vi (by omega)
    | false =>
      simp only [sz.down, ↓reduceIte, Nat.reduceEqDiff, Nat.reduceLT, Int.reduceNeg, TEP, h6, wrap_succ (show i < maxLen by omega)]
      exact .inl ⟨m - 1, by omega, i + 1, by omega, h1, h5, rfl, hd, mem_take_succ hc hall hv⟩
  · simp only [decide_eq_false_iff_not, Int.ofNat_lt] at hc
    simp only [sz.down, ↓reduceIte, Nat.reduceLT, Int.reduceNeg, TEP, hd]
    rw [List.take_of_length_le (by omega)] at hall
    rw [idx_none hall]
    exact Reif.dat rfl

set_option maxHeartbeats 4000000 in
theorem ev_r11check (m : Mo) (bn : m.g.next.length ≤ 4000) (bi : m.g.init.length ≤ 4000) (ba : m.g.ands.length ≤ 4000) (bo : m.g.outs.length ≤ 4000) (b1 : m.ins.length ≤ 4000) (b2 : m.lat.length ≤ 4000) (b3 : m.out.length ≤ 4000) : Ev TE 102 [m.v] (vi m.chk) := by
  have hM : maxLen = 9223372036854775807 := rfl
  have hg := ev_r9check m.g bn bi ba bo
  have hn := ev_rnets m (by omega)
  have hpl := fun s => ev_r11place m s (by omega)
  unfold Mo.v Gr.v at *
  refine Ev.of_awp Tryz.func102 rfl (by simp [nts]) (vc_ok mixed _ _ _ _ ?_)
  simp only [sz.down, ↓reduceIte, Nat.reduceEqDiff, Nat.reduceLT, Nat.reduceLeDiff, Nat.reduceAdd, reduceCtorEq, TEP, tis, ens, nts, Tryz.results102]
  refine ACalls.ev hg (by simp only [V.dats, V.dat, Bool.and_self]) ?_
  simp only [sz.down, ↓reduceIte, Nat.reduceLT, TEP]
  refine vcB.mk (fun hc => ?_) (fun hc => ?_)
  · simp only [sz.down, ↓reduceIte, Nat.reduceEqDiff, Nat.reduceLT, TEP]
    exact Reif.eq rfl (by unfold Mo.chk; rw [if_pos (by simpa using hc)])
  have hgc : m.g.chk = 0 := by simpa using hc
  have k8 : m.lens = true → m.chk = 1 := fun h => by unfold Mo.chk; rw [if_neg (by simp [hgc]), if_pos h]
  cases h1 : (m.ins.length : Int) != m.g.ins with
  | true =>
    simp only [sz.down, ↓reduceIte, Nat.reduceEqDiff, Nat.reduceLT, Nat.reduceLeDiff, Nat.reduceAdd, reduceCtorEq, TEP, tis, h1]
    repeat (refine ⟨.bool true, ?_⟩; simp only [sz.down, ↓reduceIte, Nat.reduceEqDiff, Nat.reduceLT, Nat.reduceLeDiff, Nat.reduceAdd, Nat.reduceSub, Int.reduceToNat, Nat.reduceDiv, Int.reduceLT, Int.reduceLE, Int.reduceNeg, Int.reduceBEq, Int.reduceBNe, Int.reduceAdd, Int.reduceSub, Nat.reduceBEq, reduceCtorEq, Nat.reduceMul, sp.down, pvNilI, Tryz.results102, h1])
    exact Reif.eq rfl (by rw [k8 (by unfold Mo.lens; rw [h1]; rfl)])
  | false =>
  cases h2 : (m.lat.length : Int) != (m.g.next.length : Int) with
  | true =>
    simp only [sz.down, ↓reduceIte, Nat.reduceEqDiff, Nat.reduceLT, Nat.reduceLeDiff, Nat.reduceAdd, reduceCtorEq, TEP, tis, h1, h2]
    repeat (refine ⟨.bool true, ?_⟩; simp only [sz.down, ↓reduceIte, Nat.reduceEqDiff, Nat.reduceLT, Nat.reduceLeDiff, Nat.reduceAdd, Nat.reduceSub, Int.reduceToNat, Nat.reduceDiv, Int.reduceLT, Int.reduceLE, Int.reduceNeg, Int.reduceBEq, Int.reduceBNe, Int.reduceAdd, Int.reduceSub, Nat.reduceBEq, reduceCtorEq, Nat.reduceMul, sp.down, pvNilI, Tryz.results102, h1, h2])
    exact Reif.eq rfl (by rw [k8 (by unfold Mo.lens; rw [h1, h2]; rfl)])
  | false =>
  cases h3 : (m.out.length : Int) != (m.g.outs.length : Int) with
  | true =>
    simp only [sz.down, ↓reduceIte, Nat.reduceEqDiff, Nat.reduceLT, Nat.reduceLeDiff, Nat.reduceAdd, TEP, tis, h1, h2, h3]
    repeat (refine ⟨.bool true, ?_⟩; simp only [sz.down, ↓reduceIte, Nat.reduceEqDiff, Nat.reduceLT, Nat.reduceLeDiff, Nat.reduceAdd, Nat.reduceSub, Int.reduceToNat, Nat.reduceDiv, Int.reduceLT, Int.reduceLE, Int.reduceNeg, Int.reduceBEq, Int.reduceBNe, Int.reduceAdd, Int.reduceSub, Nat.reduceBEq, reduceCtorEq, Nat.reduceMul, sp.down, pvNilI, Tryz.results102, h1, h2, h3])
    exact Reif.eq rfl (by rw [k8 (by unfold Mo.lens; rw [h1, h2, h3]; rfl)])
  | false =>
  have hlens : m.lens = false := by unfold Mo.lens; rw [h1, h2, h3]; rfl
  have k7 : m.names = true → m.chk = 4 := fun h => by unfold Mo.chk; rw [if_neg (by simp [hgc]), if_neg (by simp [hlens]), if_pos h]
  simp only [sz.down, ↓reduceIte, Nat.reduceEqDiff, Nat.reduceLT, Nat.reduceLeDiff, Nat.reduceAdd, TEP, tis, ens, h1, h2, h3]
  refine ACalls.ev (ev_r11names m.ins) rfl ?_
  cases h4 : m.ins.any noName with
  | true =>
    simp only [sz.down, ↓reduceIte, Nat.reduceEqDiff, Nat.reduceLT, Nat.reduceLeDiff, Nat.reduceAdd, reduceCtorEq, TEP, tis]
    repeat (refine ⟨.bool true, ?_⟩; simp only [sz.down, ↓reduceIte, Nat.reduceEqDiff, Nat.reduceLT, reduceCtorEq, TEP])
    exact Reif.eq rfl (by rw [k7 (by unfold Mo.names; rw [h4]; rfl)])
  | false =>
  simp only [sz.down, ↓reduceIte, Nat.reduceEqDiff, Nat.reduceLT, Nat.reduceLeDiff, Nat.reduceAdd, TEP, tis, ens]
  refine ACalls.ev (ev_r11names m.lat) rfl ?_
  cases h5 : m.lat.any noName with
  | true =>
    simp only [sz.down, ↓reduceIte, Nat.reduceEqDiff, Nat.reduceLT, Nat.reduceAdd, reduceCtorEq, TEP, tis]
    repeat (refine ⟨.bool true, ?_⟩; simp only [sz.down, ↓reduceIte, Nat.reduceLT, TEP])
    exact Reif.eq rfl (by rw [k7 (by unfold Mo.names; rw [h4, h5]; rfl)])
  | false =>
  simp only [sz.down, ↓reduceIte, Nat.reduceEqDiff, Nat.reduceLT, Nat.reduceAdd, TEP, tis, ens]
  refine ACalls.ev (ev_r11names m.out) rfl ?_
  cases h6 : m.out.any noName with
  | true =>
    simp only [sz.down, ↓reduceIte, Nat.reduceEqDiff, Nat.reduceLT, TEP]
    exact Reif.eq rfl (by rw [k7 (by unfold Mo.names; rw [h4, h5, h6]; rfl)])
  | false =>
  have hnames : m.names = false := by unfold Mo.names; rw [h4, h5, h6]; rfl
  have k6 : m.twos = true → m.chk = 5 := fun h => by unfold Mo.chk; rw [if_neg (by simp [hgc]), if_neg (by simp [hlens]), if_neg (by simp [hnames]), if_pos h]
  have htw : ∀ l : List S, once l = !twice l := fun l => by unfold once twice; rw [Bool.not_not]
  simp only [sz.down, ↓reduceIte, Nat.reduceEqDiff, Nat.reduceLT, Nat.reduceAdd, reduceCtorEq, TEP, tis, ens]
  refine ACalls.ev hn (by simp only [V.dats, V.dat, Bool.and_self]) ?_
  simp only [sz.down, ↓reduceIte, Nat.reduceLT, TEP, ens]
  refine ACalls.ev (ev_once _) rfl ?_
  rw [htw]
  cases h7 : twice (m.ins ++ m.lat) with
  | true =>
    simp only [sz.down, ↓reduceIte, Nat.reduceEqDiff, Nat.reduceLT, Nat.reduceAdd, reduceCtorEq, TEP, tis]
    repeat (refine ⟨.bool true, ?_⟩; simp only [sz.down, ↓reduceIte, Nat.reduceLT, TEP])
    exact Reif.eq rfl (by rw [k6 (by unfold Mo.twos; rw [h7]; rfl)])
  | false =>
  simp only [sz.down, ↓reduceIte, Nat.reduceEqDiff, Nat.reduceLT, Nat.reduceAdd, TEP, tis, ens]
  refine ACalls.ev (ev_once _) rfl ?_
  rw [htw]
  cases h8 : twice m.out with
  | true =>
    simp only [sz.down, ↓reduceIte, Nat.reduceEqDiff, Nat.reduceLT, TEP]
    exact Reif.eq rfl (by rw [k6 (by unfold Mo.twos; rw [h7, h8]; rfl)])
  | false =>
  have htwos : m.twos = false := by unfold Mo.twos; rw [h7, h8]; rfl
  have k5 : m.other m.out.length = true → m.chk = 5 := fun h => by unfold Mo.chk; rw [if_neg (by simp [hgc]), if_neg (by simp [hlens]), if_neg (by simp [hnames]), if_neg (by simp [htwos]), if_pos h]
  have hol : m.out.length = m.g.outs.length := by simp only [bne_eq_false_iff_eq] at h3; omega
  simp only [sz.down, ↓reduceIte, Nat.reduceEqDiff, Nat.reduceLT, TEP]
  refine awp_loop (fun k f h => ∃ i, k + i = m.out.length ∧ f.t 1 = .lp 0 0 ∧ f.t 4 = vi i ∧ f.d = [] ∧ h = [O.cells [vi m.g.ins, ints m.g.next, ints m.g.init, prs m.g.ands, ints m.g.outs, strs m.ins, strs m.lat, strs m.out]] ∧ m.other i = false) m.out.length ⟨0, by simp, by simp only [sz.down, ↓reduceIte, Nat.reduceEqDiff], by simp only [sz.down, ↓reduceIte]; rfl, by simp only [sz.down], rfl, rfl⟩ ?_
  rintro k f h ⟨i, hk, q1, q4, hd, rfl, hno⟩
  refine vc_ok mixed _ _ _ _ ?_
  simp only [sz.down, ↓reduceIte, Nat.reduceEqDiff, Nat.reduceLT, Nat.reduceAdd, TEP, tis, q1, q4]
  refine vcB.mk (fun hc => ?_) (fun hc => ?_)
  · simp only [decide_eq_true_eq, Int.ofNat_lt] at hc
    have hc3 : i < m.g.outs.length := by omega
    have gs := getS hc V.any
    have gi := getI hc3 V.any
    have hw := wrap_succ (show i < maxLen by omega)
    have hpg := idx_ge (m.ins ++ m.lat) (· == m.out[i])
    rw [List.length_append] at hpg
    have hpr : -1 ≤ m.place m.out[i] ∧ m.place m.out[i] ≤ 10000 := by
      unfold Mo.place
      split <;> omega
    have hgo : m.out.getD i [] = m.out[i] := getD_at hc
    have hgg : m.g.outs.getD i 0 = m.g.outs[i] := getD_at hc3
    have w2 : IntKind.i64.wrap (2 * m.place m.out[i]) = 2 * m.place m.out[i] := wrapn (by omega) (by omega)
    have hother : m.other (i + 1) = (decide (0 ≤ m.place m.out[i]) && m.g.outs[i] != 2 * m.place m.out[i]) := by
      unfold Mo.other at hno ⊢
      rw [List.range_succ, List.any_append, List.any_cons, List.any_nil, Bool.or_false, hgo, hgg, hno, Bool.false_or]
    simp only [sz.down, ↓reduceIte, Nat.reduceEqDiff, Nat.reduceLT, Nat.reduceAdd, reduceCtorEq, TEP, tis, q1, q4, gs]
    refine ⟨by decide +kernel, ⟨by omega, by omega⟩, vcEv.mk (hpl m.out[i]) rfl (by simp only [V.dats, V.dat, Bool.and_self]) ?_⟩
    cases e1 : decide (0 ≤ m.place m.out[i]) with
    | false =>
      simp only [sz.down, ↓reduceIte, Nat.reduceEqDiff, Nat.reduceLT, Nat.reduceLeDiff, Nat.reduceAdd, TEP, tis, q1, q4, e1, gi, hw]
      exact .inl ⟨k - 1, by omega, i + 1, by omega, q1, rfl, hd, rfl, by rw [hother, e1]; rfl⟩
    | true =>
    cases e2 : m.g.outs[i] != 2 * m.place m.out[i] with
    | true =>
      simp only [sz.down, ↓reduceIte, Nat.reduceEqDiff, Nat.reduceLT, Nat.reduceLeDiff, Nat.reduceAdd, reduceCtorEq, TEP, tis, q1, q4, hd, e1, gi, w2, e2]
      refine ⟨⟨by omega, by omega⟩, Reif.eq rfl ?_⟩
      rw [k5 (other_mono (by omega) (by rw [hother, e1, e2]; rfl : m.other (i + 1) = true))]
    | false =>
      simp only [sz.down, ↓reduceIte, Nat.reduceEqDiff, Nat.reduceLT, Nat.reduceLeDiff, Nat.reduceAdd, reduceCtorEq, TEP, tis, q1, q4, e1, gi, w2, e2, hw]
      exact ⟨⟨by omega, by omega⟩, .inl ⟨k - 1, by omega, i + 1, by omega, q1, rfl, hd, rfl, by rw [hother, e1, e2]; rfl⟩⟩
  · simp only [decide_eq_false_iff_not, Int.ofNat_lt] at hc
    have hi : i = m.out.length := by omega
    simp only [sz.down, ↓reduceIte, Nat.reduceLT, TEP, hd]
    refine Reif.eq rfl ?_
    unfold Mo.chk
    rw [if_neg (by simp [hgc]), if_neg (by simp [hlens]), if_neg (by simp [hnames]), if_neg (by simp [htwos]), ← hi, if_neg (by simp [hno])]

end Go.Proofs.YtboolnpmlmgpkaaGreatDoor
