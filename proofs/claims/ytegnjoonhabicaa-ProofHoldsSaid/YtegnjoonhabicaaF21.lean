/- Functions of the program, part 21. -/
import Derived.Test.YtegnjoonhabicaaF16
set_option linter.unusedVariables false
set_option linter.unusedSimpArgs false
set_option linter.unnecessarySimpa false
namespace Go.Proofs.Ytegnjoonhabicaa
open Go Go.Proofs Go.Abs Go.RowKit

theorem ev_true1 (a : Int) (vs : List Bool) (hn : vs.length ≤ 20000) (h : lit vs.length a = true) : Ev TE 40 [vi a, .ip (bools vs)] (.bool (hol vs a)) := by
  obtain ⟨h0, h1, h2⟩ := lit_rng h
  have e1 : IntKind.i64.wrap (0 - a) = -a := wrapneg ⟨by omega, by omega⟩
  by_cases hc : a < 0
  · have e2 : IntKind.i64.wrap (-a - 1) = -a - 1 := wrapn (by omega) (by omega)
    have e3 : (if -a > a then -a else a) = -a := if_pos (by omega)
    have hi : (-a - 1).toNat < vs.length := by omega
    have hp : decide (a > 0) = false := by simpa using (by omega : a ≤ 0)
    have hp2 : decide (0 < a) = false := by simpa using (by omega : a ≤ 0)
    refine Ev.of_awp Try.func40 rfl (by simp [nts]) (vc_ok mixed _ _ _ _ ?_)
    simp only [sa0.down, sa1.down, sa2.down, sa3.down, sa4.down, sb0.down, sb1.down, sb2.down, sb3.down, ↓reduceIte, Nat.reduceEqDiff, Nat.reduceLT, Nat.reduceLeDiff, Nat.reduceAdd, Nat.reduceSub, Int.reduceToNat, Nat.reduceDiv, Int.reduceLT, Int.reduceLE, Int.reduceNeg, Int.reduceBEq, Int.reduceBNe, Int.reduceAdd, Int.reduceSub, Nat.reduceBEq, reduceCtorEq, Nat.reduceMul, TEP, tis, ens, nts, Try.results40, e1, pvMax, e3, e2, getB hi, hp, hp2]
    refine ⟨⟨by omega, by omega⟩, ?_⟩
    refine Reif.eq rfl ?_
    unfold hol
    rw [if_pos hc, getD_at hi]
  · have e2 : IntKind.i64.wrap (a - 1) = a - 1 := wrapn (by omega) (by omega)
    have e3 : (if -a > a then -a else a) = a := if_neg (by omega)
    have hi : (a - 1).toNat < vs.length := by omega
    have hp : decide (a > 0) = true := by simpa using (by omega : 0 < a)
    have hp2 : decide (0 < a) = true := by simpa using (by omega : 0 < a)
    refine Ev.of_awp Try.func40 rfl (by simp [nts]) (vc_ok mixed _ _ _ _ ?_)
    simp only [sa0.down, sa1.down, sa2.down, sa3.down, sa4.down, sb0.down, sb1.down, sb2.down, sb3.down, ↓reduceIte, Nat.reduceEqDiff, Nat.reduceLT, Nat.reduceLeDiff, Nat.reduceAdd, Nat.reduceSub, Int.reduceToNat, Nat.reduceDiv, Int.reduceLT, Int.reduceLE, Int.reduceNeg, Int.reduceBEq, Int.reduceBNe, Int.reduceAdd, Int.reduceSub, Nat.reduceBEq, reduceCtorEq, Nat.reduceMul, TEP, tis, ens, nts, Try.results40, e1, pvMax, e3, e2, getB hi, hp, hp2]
    refine ⟨⟨by omega, by omega⟩, ?_⟩
    refine Reif.eq rfl ?_
    unfold hol
    rw [if_neg hc, getD_at hi]

theorem ev_true2 (c : Cl) (vs : List Bool) (hn : vs.length ≤ 20000) (h : ∀ a ∈ c, lit vs.length a = true) : Ev TE 41 [ints c, .ip (.fn (.func 40) [] [.ip (bools vs)])] (.bool (!(c.any (hol vs)))) := by
  refine Ev.of_awp Try.func41 rfl (by simp [nts]) (vc_ok mixed _ _ _ _ ?_)
  simp only [sa0.down, sa1.down, sa2.down, sa3.down, sa4.down, sb0.down, sb1.down, sb2.down, sb3.down, ↓reduceIte, Nat.reduceEqDiff, Nat.reduceLT, Nat.reduceLeDiff, Nat.reduceAdd, Nat.reduceSub, Int.reduceToNat, Nat.reduceDiv, Int.reduceLT, Int.reduceLE, Int.reduceNeg, Int.reduceBEq, Int.reduceBNe, Int.reduceAdd, Int.reduceSub, Nat.reduceBEq, reduceCtorEq, Nat.reduceMul, TEP, tis, ens, nts, Try.results41]
  refine ACalls.ev (ev_ctI c 40 [.ip (bools vs)] (hol vs) rfl (by simp only [V.dats, V.dat, dats_b, Bool.and_self]) fun x hx => ev_true1 x vs hn (h x hx)) (by simp only [V.dats, V.dat, dats_b, dats_vi, Bool.and_self]) ?_
  simp only [sa0.down, sa1.down, sa2.down, sa3.down, sa4.down, sb0.down, sb1.down, sb2.down, sb3.down, ↓reduceIte, Nat.reduceEqDiff, Nat.reduceLT, Nat.reduceLeDiff, Nat.reduceAdd, Nat.reduceSub, Int.reduceToNat, Nat.reduceDiv, Int.reduceLT, Int.reduceLE, Int.reduceNeg, Int.reduceBEq, Int.reduceBNe, Int.reduceAdd, Int.reduceSub, Nat.reduceBEq, reduceCtorEq, Nat.reduceMul, TEP, tis, ens, nts, Try.results41]
  exact Reif.dat rfl

/-- What True tells. -/
def trueV (l : List Cl) (vs : List Bool) : Bool × Int := if chk l vs.length ≠ 0 then (false, chk l vs.length) else (sat l vs, 0)

theorem any_sat {l : List Cl} {vs : List Bool} : (l.any fun c => !(c.any (hol vs))) = !(sat l vs) := by
  unfold sat
  rw [List.not_all_eq_any_not]

theorem ev_true (l : List Cl) (vs : List Bool) : Ev TE 21 [cls l, bools vs] (.tup [.bool (trueV l vs).1, vi (trueV l vs).2]) := by
  refine Ev.of_awp Try.func21 rfl (by simp [nts]) (vc_ok mixed _ _ _ _ ?_)
  simp only [sa0.down, sa1.down, sa2.down, sa3.down, sa4.down, sb0.down, sb1.down, sb2.down, sb3.down, ↓reduceIte, Nat.reduceEqDiff, Nat.reduceLT, Nat.reduceLeDiff, Nat.reduceAdd, Nat.reduceSub, Int.reduceToNat, Nat.reduceDiv, Int.reduceLT, Int.reduceLE, Int.reduceNeg, Int.reduceBEq, Int.reduceBNe, Int.reduceAdd, Int.reduceSub, Nat.reduceBEq, reduceCtorEq, Nat.reduceMul, TEP, tis, ens, nts, Try.results21]
  refine ACalls.ev (ev_check l vs.length) (by simp only [V.dats, datC]; rfl) ?_
  simp only [sa0.down, sa1.down, sa2.down, sa3.down, sa4.down, sb0.down, sb1.down, sb2.down, sb3.down, ↓reduceIte, Nat.reduceEqDiff, Nat.reduceLT, Nat.reduceLeDiff, Nat.reduceAdd, Nat.reduceSub, Int.reduceToNat, Nat.reduceDiv, Int.reduceLT, Int.reduceLE, Int.reduceNeg, Int.reduceBEq, Int.reduceBNe, Int.reduceAdd, Int.reduceSub, Nat.reduceBEq, reduceCtorEq, Nat.reduceMul, TEP, tis, ens, nts, Try.results21]
  refine vcB.mk (fun hc => ?_) (fun hc => ?_)
  · have hc : chk l vs.length ≠ 0 := by simpa using hc
    have h0 : trueV l vs = (false, chk l vs.length) := by unfold trueV; rw [if_pos hc]
    rw [h0]
    simp only [sa0.down, sa1.down, sa2.down, sa3.down, sa4.down, sb0.down, sb1.down, sb2.down, sb3.down, ↓reduceIte, Nat.reduceEqDiff, Nat.reduceLT, Nat.reduceLeDiff, Nat.reduceAdd, Nat.reduceSub, Int.reduceToNat, Nat.reduceDiv, Int.reduceLT, Int.reduceLE, Int.reduceNeg, Int.reduceBEq, Int.reduceBNe, Int.reduceAdd, Int.reduceSub, Nat.reduceBEq, reduceCtorEq, Nat.reduceMul, TEP, tis, ens, nts, Try.results21]
    exact Reif.dat rfl
  · have hc : chk l vs.length = 0 := by simpa using hc
    have h0 : trueV l vs = (sat l vs, 0) := by unfold trueV; rw [if_neg (by simp [hc])]
    obtain ⟨q1, q2, q3, q4⟩ := chk_vars hc
    rw [h0]
    simp only [sa0.down, sa1.down, sa2.down, sa3.down, sa4.down, sb0.down, sb1.down, sb2.down, sb3.down, ↓reduceIte, Nat.reduceEqDiff, Nat.reduceLT, Nat.reduceLeDiff, Nat.reduceAdd, Nat.reduceSub, Int.reduceToNat, Nat.reduceDiv, Int.reduceLT, Int.reduceLE, Int.reduceNeg, Int.reduceBEq, Int.reduceBNe, Int.reduceAdd, Int.reduceSub, Nat.reduceBEq, reduceCtorEq, Nat.reduceMul, TEP, tis, ens, nts, Try.results21]
    refine ACalls.lend (ev_ctC l 41 [.ip (.fn (.func 40) [] [.ip (bools vs)])] (fun c => !(c.any (hol vs))) rfl (by simp only [V.dats, V.dat, dats_b, Bool.and_self]) fun x hx => ev_true2 x vs (by omega) (q4 x hx))
      (Reifs.cons (Reif.dat datC) (Reifs.cons (Reif.fn Reifs.nil (Reifs.cons (Reif.lp rfl (Reifs.cons (Reif.fn Reifs.nil (Reifs.cons (Reif.lp rfl (Reifs.cons (Reif.dat datB) Reifs.nil) rfl datB (by simp [V.vc]) rfl) Reifs.nil)) Reifs.nil) rfl (by simp only [V.dats, V.dat, dats_b, Bool.and_self]) (by simp [V.vc]) rfl) Reifs.nil)) Reifs.nil)) rfl ?_
    rw [any_sat]
    simp only [sa0.down, sa1.down, sa2.down, sa3.down, sa4.down, sb0.down, sb1.down, sb2.down, sb3.down, ↓reduceIte, Nat.reduceEqDiff, Nat.reduceLT, Nat.reduceLeDiff, Nat.reduceAdd, Nat.reduceSub, Int.reduceToNat, Nat.reduceDiv, Int.reduceLT, Int.reduceLE, Int.reduceNeg, Int.reduceBEq, Int.reduceBNe, Int.reduceAdd, Int.reduceSub, Nat.reduceBEq, reduceCtorEq, Nat.reduceMul, TEP, tis, ens, nts, Try.results21]
    exact Reif.eq rfl (by rw [Bool.not_not])

theorem canon_sub {p : Int → Prop} {n : Nat} {a : Int} (h : a ∈ canon p n) : p a := by
  unfold canon at h
  obtain ⟨k, _, h⟩ := List.mem_filterMap.1 h
  exact (canon_abs h).2
theorem canon_len {p : Int → Prop} {n : Nat} : (canon p n).length ≤ n := by
  unfold canon
  refine Nat.le_trans (List.length_filterMap_le _ _) ?_
  rw [List.length_range]
  exact Nat.le_refl _
set_option maxRecDepth 100000 in
set_option maxHeartbeats 4000000 in
theorem ev_law (l : List Cl) (c given : Cl) (vs : List Bool) : Ev TE 7 [cls l, ints c, ints given, bools vs] (.bool true) := by
  refine Ev.bnd fun hb => ?_
  have hM : maxLen = 9223372036854775807 := rfl
  refine Ev.of_awp Try.func7 rfl (by simp [nts]) (vc_ok mixed _ _ _ _ ?_)
  simp only [sa0.down, sa1.down, sa2.down, sa3.down, sa4.down, sb0.down, sb1.down, sb2.down, sb3.down, ↓reduceIte, Nat.reduceEqDiff, Nat.reduceLT, Nat.reduceLeDiff, Nat.reduceAdd, Nat.reduceSub, Int.reduceToNat, Nat.reduceDiv, Int.reduceLT, Int.reduceLE, Int.reduceNeg, Int.reduceBEq, Int.reduceBNe, Int.reduceAdd, Int.reduceSub, Nat.reduceBEq, reduceCtorEq, Nat.reduceMul, TEP, tis, ens, nts, Try.results7]
  refine ACalls.ev ev_works rfl ?_
  simp only [sa0.down, sa1.down, sa2.down, sa3.down, sa4.down, sb0.down, sb1.down, sb2.down, sb3.down, ↓reduceIte, Nat.reduceEqDiff, Nat.reduceLT, Nat.reduceLeDiff, Nat.reduceAdd, Nat.reduceSub, Int.reduceToNat, Nat.reduceDiv, Int.reduceLT, Int.reduceLE, Int.reduceNeg, Int.reduceBEq, Int.reduceBNe, Int.reduceAdd, Int.reduceSub, Nat.reduceBEq, reduceCtorEq, Nat.reduceMul, TEP, tis, ens, nts, Try.results7]
  refine ACalls.ev (ev_few l 40) (by simp only [V.dats, datC]; rfl) ?_
  simp only [sa0.down, sa1.down, sa2.down, sa3.down, sa4.down, sb0.down, sb1.down, sb2.down, sb3.down, ↓reduceIte, Nat.reduceEqDiff, Nat.reduceLT, Nat.reduceLeDiff, Nat.reduceAdd, Nat.reduceSub, Int.reduceToNat, Nat.reduceDiv, Int.reduceLT, Int.reduceLE, Int.reduceNeg, Int.reduceBEq, Int.reduceBNe, Int.reduceAdd, Int.reduceSub, Nat.reduceBEq, reduceCtorEq, Nat.reduceMul, TEP, tis, ens, nts, Try.results7]
  refine vcB.mk (fun hc => ?_) (fun hc => ?_)
  · simp only [sa0.down, sa1.down, sa2.down, sa3.down, sa4.down, sb0.down, sb1.down, sb2.down, sb3.down, ↓reduceIte, Nat.reduceEqDiff, Nat.reduceLT, Nat.reduceLeDiff, Nat.reduceAdd, Nat.reduceSub, Int.reduceToNat, Nat.reduceDiv, Int.reduceLT, Int.reduceLE, Int.reduceNeg, Int.reduceBEq, Int.reduceBNe, Int.reduceAdd, Int.reduceSub, Nat.reduceBEq, reduceCtorEq, Nat.reduceMul, TEP, tis, ens, nts, Try.results7]
    exact Reif.dat rfl
  · simp only [Bool.or_eq_false_iff, Bool.not_eq_false', decide_eq_false_iff_not] at hc
    obtain ⟨⟨⟨f1, v1⟩, v2⟩, v3⟩ := hc
    obtain ⟨n1, n2⟩ := few_len f1
    simp only [sa0.down, sa1.down, sa2.down, sa3.down, sa4.down, sb0.down, sb1.down, sb2.down, sb3.down, ↓reduceIte, Nat.reduceEqDiff, Nat.reduceLT, Nat.reduceLeDiff, Nat.reduceAdd, Nat.reduceSub, Int.reduceToNat, Nat.reduceDiv, Int.reduceLT, Int.reduceLE, Int.reduceNeg, Int.reduceBEq, Int.reduceBNe, Int.reduceAdd, Int.reduceSub, Nat.reduceBEq, reduceCtorEq, Nat.reduceMul, TEP, tis, ens, nts, Try.results7]
    refine ACalls.ev (ev_true l vs) (by simp only [V.dats, datC, datB]; rfl) ?_
    by_cases hq : chk l vs.length = 0
    · have g1 : trueV l vs = (sat l vs, 0) := by unfold trueV; rw [if_neg (by simp [hq])]
      rw [g1]
      obtain ⟨q1, q2, q3, q4⟩ := chk_vars hq
      have hL : Lits l := fun c hc a ha => by have := lit_rng (q4 c hc a ha); omega
      cases hs : sat l vs with
      | false =>
        simp only [sa0.down, sa1.down, sa2.down, sa3.down, sa4.down, sb0.down, sb1.down, sb2.down, sb3.down, ↓reduceIte, Nat.reduceEqDiff, Nat.reduceLT, Nat.reduceLeDiff, Nat.reduceAdd, Nat.reduceSub, Int.reduceToNat, Nat.reduceDiv, Int.reduceLT, Int.reduceLE, Int.reduceNeg, Int.reduceBEq, Int.reduceBNe, Int.reduceAdd, Int.reduceSub, Nat.reduceBEq, reduceCtorEq, Nat.reduceMul, TEP, tis, ens, nts, Try.results7]
        exact Reif.dat rfl
      | true =>
        simp only [sa0.down, sa1.down, sa2.down, sa3.down, sa4.down, sb0.down, sb1.down, sb2.down, sb3.down, ↓reduceIte, Nat.reduceEqDiff, Nat.reduceLT, Nat.reduceLeDiff, Nat.reduceAdd, Nat.reduceSub, Int.reduceToNat, Nat.reduceDiv, Int.reduceLT, Int.reduceLE, Int.reduceNeg, Int.reduceBEq, Int.reduceBNe, Int.reduceAdd, Int.reduceSub, Nat.reduceBEq, reduceCtorEq, Nat.reduceMul, TEP, tis, ens, nts, Try.results7]
        refine ACalls.ev (ev_Rup l vs.length c (by omega)) (by simp only [V.dats, datC, datI]; rfl) ?_
        simp only [sa0.down, sa1.down, sa2.down, sa3.down, sa4.down, sb0.down, sb1.down, sb2.down, sb3.down, ↓reduceIte, Nat.reduceEqDiff, Nat.reduceLT, Nat.reduceLeDiff, Nat.reduceAdd, Nat.reduceSub, Int.reduceToNat, Nat.reduceDiv, Int.reduceLT, Int.reduceLE, Int.reduceNeg, Int.reduceBEq, Int.reduceBNe, Int.reduceAdd, Int.reduceSub, Nat.reduceBEq, reduceCtorEq, Nat.reduceMul, TEP, tis, ens, nts, Try.results7]
        refine ⟨⟨rfl, by decide⟩, ACalls.ev (Ev.le (VLes.cons VLe.exact (VLes.cons (VLe.refl _) VLes.nil)) (ev_true [c] vs)) (by simp only [V.dats, V.dat, dats_vi, datB, Bool.and_self]) ?_⟩
        have k1 : ((rupV l vs.length c).2 == 0 && (rupV l vs.length c).1 && ((trueV [c] vs).2 != 0 || !(trueV [c] vs).1)) = false := by
          unfold rupV
          split
          · rename_i h
            have : (ask l vs.length [c] == 0) = false := by simpa using h
            simp [this]
          · rename_i h
            have h : ask l vs.length [c] = 0 := by simpa using h
            obtain ⟨a1, a2, _, _, _, _, _, a8⟩ := ask_ok h
            cases hb : badB l (negs c) with
            | false => simp
            | true =>
              have h3 := rup_hol a1 (a2 c (by simp)) hs hb
              have h4 : chk [c] vs.length = 0 := by
                unfold chk
                rw [if_neg (by simp; omega), if_pos (by simpa using a8 c (by simp))]
              have h5 : trueV [c] vs = (true, 0) := by
                unfold trueV sat
                rw [if_neg (by simp [h4])]
                simp [h3]
              rw [h5]; rfl
        generalize rupV l vs.length c = rr1 at k1 ⊢
        generalize trueV [c] vs = rr2 at k1 ⊢
        simp only [sa0.down, sa1.down, sa2.down, sa3.down, sa4.down, sb0.down, sb1.down, sb2.down, sb3.down, ↓reduceIte, Nat.reduceEqDiff, Nat.reduceLT, Nat.reduceLeDiff, Nat.reduceAdd, Nat.reduceSub, Int.reduceToNat, Nat.reduceDiv, Int.reduceLT, Int.reduceLE, Int.reduceNeg, Int.reduceBEq, Int.reduceBNe, Int.reduceAdd, Int.reduceSub, Nat.reduceBEq, reduceCtorEq, Nat.reduceMul, TEP, tis, ens, nts, Try.results7, k1]
        refine ⟨fun h => ⟨h, fun h2 => by rw [h, h2]; rfl⟩, ?_⟩
        refine ACalls.ev (ev_prop l vs.length given) (by simp only [V.dats, datC, datI]; rfl) ?_
        by_cases hk : ask l vs.length [given] = 0
        · obtain ⟨a1, a2, _, _, _, _, a7, a8⟩ := ask_ok hk
          have a2 := a2 given (by simp)
          have a8 := a8 given (by simp)
          have hgl : given.length ≤ 30 := by omega
          have g2 : (propV l vs.length given).2.2 = 0 := by unfold propV; rw [if_neg (by simp [hk])]; split <;> rfl
          have g3 : (propV l vs.length given).1.length ≤ 1000000 ∧ ∀ a ∈ (propV l vs.length given).1, Der l given a ∧ lit vs.length a = true := by
            unfold propV
            rw [if_neg (by simp [hk])]
            split
            · simp
            · refine ⟨Nat.le_trans canon_len (by omega), fun a ha => ?_⟩
              have hd := canon_sub ha
              exact ⟨hd, der_rng (P := fun a => lit vs.length a = true) a7 a8 hd⟩
          have g4 : (propV l vs.length given).2.1 = true → Bad l given := by
            unfold propV
            rw [if_neg (by simp [hk])]
            split
            · rename_i h; exact fun _ => h
            · intro h; cases h
          generalize propV l vs.length given = pp at g2 g3 g4 ⊢
          simp only [sa0.down, sa1.down, sa2.down, sa3.down, sa4.down, sb0.down, sb1.down, sb2.down, sb3.down, ↓reduceIte, Nat.reduceEqDiff, Nat.reduceLT, Nat.reduceLeDiff, Nat.reduceAdd, Nat.reduceSub, Int.reduceToNat, Nat.reduceDiv, Int.reduceLT, Int.reduceLE, Int.reduceNeg, Int.reduceBEq, Int.reduceBNe, Int.reduceAdd, Int.reduceSub, Nat.reduceBEq, reduceCtorEq, Nat.reduceMul, TEP, tis, ens, nts, Try.results7, g2]
          refine awp_loop (fun m f h => ∃ i, m + i = given.length ∧ f.t 2 = ints given ∧ f.t 3 = bools vs ∧ f.t 9 = .bool true ∧ f.t 17 = ints pp.1 ∧ f.t 18 = .bool pp.2.1 ∧ f.t 20 = vi i ∧ f.d = [] ∧ ∀ x ∈ given.take i, hol vs x = true) given.length ⟨0, by simp, rfl, rfl, rfl, rfl, rfl, rfl, rfl, by simp⟩ ?_
          rintro m f h ⟨i, hm, h2, h3, h9, h17, h18, h20, hd, hall⟩
          refine vc_ok mixed _ _ _ _ ?_
          simp only [sa0.down, sa1.down, sa2.down, sa3.down, sa4.down, sb0.down, sb1.down, sb2.down, sb3.down, ↓reduceIte, Nat.reduceEqDiff, Nat.reduceLT, Nat.reduceLeDiff, Nat.reduceAdd, Nat.reduceSub, Int.reduceToNat, Nat.reduceDiv, Int.reduceLT, Int.reduceLE, Int.reduceNeg, Int.reduceBEq, Int.reduceBNe, Int.reduceAdd, Int.reduceSub, Nat.reduceBEq, reduceCtorEq, Nat.reduceMul, TEP, tis, ens, nts, Try.results7, h2, h3, h9, h17, h18, h20, hd]
          refine vcB.mk (fun hc => ?_) (fun hc => ?_)
          · simp only [decide_eq_true_eq, Int.ofNat_lt] at hc
            simp only [sa0.down, sa1.down, sa2.down, sa3.down, sa4.down, sb0.down, sb1.down, sb2.down, sb3.down, ↓reduceIte, Nat.reduceEqDiff, Nat.reduceLT, Nat.reduceLeDiff, Nat.reduceAdd, Nat.reduceSub, Int.reduceToNat, Nat.reduceDiv, Int.reduceLT, Int.reduceLE, Int.reduceNeg, Int.reduceBEq, Int.reduceBNe, Int.reduceAdd, Int.reduceSub, Nat.reduceBEq, reduceCtorEq, Nat.reduceMul, TEP, tis, ens, nts, Try.results7, h2, h3, h9, h17, h18, h20, hd, getI hc]
            refine ⟨⟨by omega, by omega⟩, ACalls.ev (ev_holds given[i] vs (by omega) (a8 _ (List.getElem_mem _))) (by simp only [V.dats, V.dat, dats_b, Bool.and_self]) ?_⟩
            simp only [sa0.down, sa1.down, sa2.down, sa3.down, sa4.down, sb0.down, sb1.down, sb2.down, sb3.down, ↓reduceIte, Nat.reduceEqDiff, Nat.reduceLT, Nat.reduceLeDiff, Nat.reduceAdd, Nat.reduceSub, Int.reduceToNat, Nat.reduceDiv, Int.reduceLT, Int.reduceLE, Int.reduceNeg, Int.reduceBEq, Int.reduceBNe, Int.reduceAdd, Int.reduceSub, Nat.reduceBEq, reduceCtorEq, Nat.reduceMul, TEP, tis, ens, nts, Try.results7, h2, h3, h9, h17, h18, h20, hd]
            refine vcB.mk (fun hc' => ?_) (fun hc' => ?_)
            · simp only [sa0.down, sa1.down, sa2.down, sa3.down, sa4.down, sb0.down, sb1.down, sb2.down, sb3.down, ↓reduceIte, Nat.reduceEqDiff, Nat.reduceLT, Nat.reduceLeDiff, Nat.reduceAdd, Nat.reduceSub, Int.reduceToNat, Nat.reduceDiv, Int.reduceLT, Int.reduceLE, Int.reduceNeg, Int.reduceBEq, Int.reduceBNe, Int.reduceAdd, Int.reduceSub, Nat.reduceBEq, reduceCtorEq, Nat.reduceMul, TEP, tis, ens, nts, Try.results7, h9, hd]
              exact Reif.dat rfl
            · simp only [sa0.down, sa1.down, sa2.down, sa3.down, sa4.down, sb0.down, sb1.down, sb2.down, sb3.down, ↓reduceIte, Nat.reduceEqDiff, Nat.reduceLT, Nat.reduceLeDiff, Nat.reduceAdd, Nat.reduceSub, Int.reduceToNat, Nat.reduceDiv, Int.reduceLT, Int.reduceLE, Int.reduceNeg, Int.reduceBEq, Int.reduceBNe, Int.reduceAdd, Int.reduceSub, Nat.reduceBEq, reduceCtorEq, Nat.reduceMul, TEP, tis, ens, nts, Try.results7, h2, h3, h9, h17, h18, h20, hd, wrap_succ (show i < maxLen by omega)]
              exact .inl ⟨m - 1, by omega, i + 1, by omega, h2, h3, h9, h17, h18, rfl, hd, mem_take_succ hc hall (by simpa using hc')⟩
          · simp only [decide_eq_false_iff_not, Int.ofNat_lt] at hc
            rw [List.take_of_length_le (by omega)] at hall
            simp only [sa0.down, sa1.down, sa2.down, sa3.down, sa4.down, sb0.down, sb1.down, sb2.down, sb3.down, ↓reduceIte, Nat.reduceEqDiff, Nat.reduceLT, Nat.reduceLeDiff, Nat.reduceAdd, Nat.reduceSub, Int.reduceToNat, Nat.reduceDiv, Int.reduceLT, Int.reduceLE, Int.reduceNeg, Int.reduceBEq, Int.reduceBNe, Int.reduceAdd, Int.reduceSub, Nat.reduceBEq, reduceCtorEq, Nat.reduceMul, TEP, tis, ens, nts, Try.results7, h2, h3, h9, h17, h18, h20, hd]
            refine awp_loop (fun m f h => ∃ i, m + i = pp.1.length ∧ f.t 3 = bools vs ∧ f.t 9 = .bool true ∧ f.t 17 = ints pp.1 ∧ f.t 18 = .bool pp.2.1 ∧ f.t 21 = vi i ∧ f.d = []) pp.1.length ⟨0, by simp, h3, h9, h17, h18, rfl, hd⟩ ?_
            rintro m f h ⟨i, hm, h3, h9, h17, h18, h21, hd⟩
            refine vc_ok mixed _ _ _ _ ?_
            simp only [sa0.down, sa1.down, sa2.down, sa3.down, sa4.down, sb0.down, sb1.down, sb2.down, sb3.down, ↓reduceIte, Nat.reduceEqDiff, Nat.reduceLT, Nat.reduceLeDiff, Nat.reduceAdd, Nat.reduceSub, Int.reduceToNat, Nat.reduceDiv, Int.reduceLT, Int.reduceLE, Int.reduceNeg, Int.reduceBEq, Int.reduceBNe, Int.reduceAdd, Int.reduceSub, Nat.reduceBEq, reduceCtorEq, Nat.reduceMul, TEP, tis, ens, nts, Try.results7, h3, h9, h17, h18, h21, hd]
            refine vcB.mk (fun hc => ?_) (fun hc => ?_)
            · simp only [decide_eq_true_eq, Int.ofNat_lt] at hc
              obtain ⟨b1, b2⟩ := g3.2 _ (List.getElem_mem hc)
              have hh := der_hol hL hs hall _ b1
              simp only [sa0.down, sa1.down, sa2.down, sa3.down, sa4.down, sb0.down, sb1.down, sb2.down, sb3.down, ↓reduceIte, Nat.reduceEqDiff, Nat.reduceLT, Nat.reduceLeDiff, Nat.reduceAdd, Nat.reduceSub, Int.reduceToNat, Nat.reduceDiv, Int.reduceLT, Int.reduceLE, Int.reduceNeg, Int.reduceBEq, Int.reduceBNe, Int.reduceAdd, Int.reduceSub, Nat.reduceBEq, reduceCtorEq, Nat.reduceMul, TEP, tis, ens, nts, Try.results7, h3, h9, h17, h18, h21, hd, getI hc]
              refine ⟨⟨by omega, by omega⟩, ACalls.ev (ev_holds pp.1[i] vs (by omega) b2) (by simp only [V.dats, V.dat, dats_b, Bool.and_self]) ?_⟩
              rw [hh]
              simp only [sa0.down, sa1.down, sa2.down, sa3.down, sa4.down, sb0.down, sb1.down, sb2.down, sb3.down, ↓reduceIte, Nat.reduceEqDiff, Nat.reduceLT, Nat.reduceLeDiff, Nat.reduceAdd, Nat.reduceSub, Int.reduceToNat, Nat.reduceDiv, Int.reduceLT, Int.reduceLE, Int.reduceNeg, Int.reduceBEq, Int.reduceBNe, Int.reduceAdd, Int.reduceSub, Nat.reduceBEq, reduceCtorEq, Nat.reduceMul, TEP, tis, ens, nts, Try.results7, h3, h9, h17, h18, h21, hd, wrap_succ (show i < maxLen by omega)]
              exact .inl ⟨m - 1, by omega, i + 1, by omega, h3, h9, h17, h18, rfl, hd⟩
            · have hnb : pp.2.1 = false := by
                cases hB : pp.2.1 with
                | false => rfl
                | true => exact absurd hall (bad_hol hL (fun a ha => (a2 a ha).2.2) hs (g4 hB))
              simp only [sa0.down, sa1.down, sa2.down, sa3.down, sa4.down, sb0.down, sb1.down, sb2.down, sb3.down, ↓reduceIte, Nat.reduceEqDiff, Nat.reduceLT, Nat.reduceLeDiff, Nat.reduceAdd, Nat.reduceSub, Int.reduceToNat, Nat.reduceDiv, Int.reduceLT, Int.reduceLE, Int.reduceNeg, Int.reduceBEq, Int.reduceBNe, Int.reduceAdd, Int.reduceSub, Nat.reduceBEq, reduceCtorEq, Nat.reduceMul, TEP, tis, ens, nts, Try.results7, h3, h9, h17, h18, h21, hd, hnb]
              exact Reif.dat rfl
        · have g2 : propV l vs.length given = ([], false, ask l vs.length [given]) := by unfold propV; rw [if_pos hk]
          have hz : (ask l vs.length [given] != 0) = true := bne_iff_ne.2 hk
          rw [g2]
          simp only [sa0.down, sa1.down, sa2.down, sa3.down, sa4.down, sb0.down, sb1.down, sb2.down, sb3.down, ↓reduceIte, Nat.reduceEqDiff, Nat.reduceLT, Nat.reduceLeDiff, Nat.reduceAdd, Nat.reduceSub, Int.reduceToNat, Nat.reduceDiv, Int.reduceLT, Int.reduceLE, Int.reduceNeg, Int.reduceBEq, Int.reduceBNe, Int.reduceAdd, Int.reduceSub, Nat.reduceBEq, reduceCtorEq, Nat.reduceMul, TEP, tis, ens, nts, Try.results7, hz]
          exact Reif.dat rfl
    · have g1 : trueV l vs = (false, chk l vs.length) := by unfold trueV; rw [if_pos hq]
      have hz : (chk l vs.length != 0) = true := bne_iff_ne.2 hq
      rw [g1]
      simp only [sa0.down, sa1.down, sa2.down, sa3.down, sa4.down, sb0.down, sb1.down, sb2.down, sb3.down, ↓reduceIte, Nat.reduceEqDiff, Nat.reduceLT, Nat.reduceLeDiff, Nat.reduceAdd, Nat.reduceSub, Int.reduceToNat, Nat.reduceDiv, Int.reduceLT, Int.reduceLE, Int.reduceNeg, Int.reduceBEq, Int.reduceBNe, Int.reduceAdd, Int.reduceSub, Nat.reduceBEq, reduceCtorEq, Nat.reduceMul, TEP, tis, ens, nts, Try.results7, hz]
      exact Reif.dat rfl

end Go.Proofs.Ytegnjoonhabicaa
