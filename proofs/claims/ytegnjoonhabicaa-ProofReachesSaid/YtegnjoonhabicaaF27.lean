/- Functions of the program, part 27. -/
import Derived.Test.YtegnjoonhabicaaF26
set_option linter.unusedVariables false
set_option linter.unusedSimpArgs false
set_option linter.unnecessarySimpa false
namespace Go.Proofs.Ytegnjoonhabicaa
open Go Go.Proofs Go.Abs Go.RowKit

/-- What the document's side may be asked. -/
structure LitN (l : List Cl) (vars : Nat) : Prop where
  rng : ∀ c ∈ l, ∀ b ∈ c, b ≠ 0 ∧ b.natAbs ≤ vars
  len : ∀ c ∈ l, c.length ≤ 1000000

theorem FinR.badB {l : List Cl} {given on : Cl} {vars : Nat} {bad : Bool} (h : FinR l given vars on bad) : bad = badB l given := by
  cases bad
  · rw [badB_false (h.not rfl)]
  · rw [badB_true (h.isb rfl)]

theorem neg_rng {c : Cl} {vars : Nat} (h : ∀ b ∈ c, b ≠ 0 ∧ b.natAbs ≤ vars) : ∀ b ∈ negs c, b ≠ 0 ∧ b.natAbs ≤ vars := by
  intro b hb
  obtain ⟨a, ha, rfl⟩ := List.mem_map.1 hb
  have := h a ha
  omega

set_option maxHeartbeats 2000000 in
theorem ev_rrup (l : List Cl) (vars : Nat) (c : Cl) (hv : vars ≤ 20000) (hln : l.length ≤ 1000000) (hl : LitN l vars) (hcl : c.length ≤ 1000000) (hc : ∀ b ∈ c, b ≠ 0 ∧ b.natAbs ≤ vars) :
    Ev TE 31 [cls l, vi vars, ints c] (.bool (badB l (negs c))) := by
  have hM : maxLen = 9223372036854775807 := rfl
  refine Ev.of_awp Try.func31 rfl (by simp [nts]) (vc_ok mixed _ _ _ _ ?_)
  simp only [sa0.down, sa1.down, sa2.down, sa3.down, sa4.down, sb0.down, sb1.down, sb2.down, sb3.down, ↓reduceIte, Nat.reduceEqDiff, Nat.reduceLT, Nat.reduceLeDiff, Nat.reduceAdd, Nat.reduceSub, Int.reduceToNat, Nat.reduceDiv, Int.reduceLT, Int.reduceLE, Int.reduceNeg, Int.reduceBEq, Int.reduceBNe, Int.reduceAdd, Int.reduceSub, Nat.reduceBEq, reduceCtorEq, Nat.reduceMul, TEP, tis, ens, nts, Try.results31]
  refine awp_loop (fun m f h => ∃ i, m + i = c.length ∧ f.t 0 = cls l ∧ f.t 1 = vi vars ∧ f.t 2 = ints c ∧ f.t 8 = vi i ∧ f.d = [] ∧ RowV 0 ((negs (c.take i)).map vi) (f.t 7) [] h) c.length ⟨0, by simp, rfl, rfl, rfl, rfl, rfl, .inl ⟨rfl, rfl, rfl⟩⟩ ?_
  rintro m f h ⟨i, hm, h0, h1, h2, h8, hd, hrow⟩
  refine vc_ok mixed _ _ _ _ ?_
  simp only [sa0.down, sa1.down, sa2.down, sa3.down, sa4.down, sb0.down, sb1.down, sb2.down, sb3.down, ↓reduceIte, Nat.reduceEqDiff, Nat.reduceLT, Nat.reduceLeDiff, Nat.reduceAdd, Nat.reduceSub, Int.reduceToNat, Nat.reduceDiv, Int.reduceLT, Int.reduceLE, Int.reduceNeg, Int.reduceBEq, Int.reduceBNe, Int.reduceAdd, Int.reduceSub, Nat.reduceBEq, reduceCtorEq, Nat.reduceMul, TEP, tis, ens, nts, Try.results31, h0, h1, h2, h8, hd]
  refine vcB.mk (fun hlt => ?_) (fun hlt => ?_)
  · simp only [decide_eq_true_eq, Int.ofNat_lt] at hlt
    have hrg := hc _ (List.getElem_mem hlt)
    have hneg : IntKind.i64.wrap (0 - c[i]) = -c[i] := by rw [wrapn (by omega) (by omega)]; omega
    have hn : (negs (c.take (i + 1))).map vi = (negs (c.take i)).map vi ++ [vi (-c[i])] := by
      unfold negs
      rw [List.map_map, take_map_succ hlt, List.map_map]; rfl
    have hln : (negs (c.take i)).length = i := by simp [negs]; omega
    rcases hrow with ⟨ho, hv, rfl⟩ | ⟨hv, rfl⟩
    · simp only [sa0.down, sa1.down, sa2.down, sa3.down, sa4.down, sb0.down, sb1.down, sb2.down, sb3.down, ↓reduceIte, Nat.reduceEqDiff, Nat.reduceLT, Nat.reduceLeDiff, Nat.reduceAdd, Nat.reduceSub, Int.reduceToNat, Nat.reduceDiv, Int.reduceLT, Int.reduceLE, Int.reduceNeg, Int.reduceBEq, Int.reduceBNe, Int.reduceAdd, Int.reduceSub, Nat.reduceBEq, reduceCtorEq, Nat.reduceMul, TEP, tis, ens, nts, Try.results31, h0, h1, h2, h8, hd, getI hlt, hv, hneg, wrap_succ (show i < maxLen by omega)]
      refine ⟨⟨by omega, by omega⟩, ⟨rfl, by decide⟩, by omega, .inl ⟨m - 1, by omega, i + 1, by omega, h0, h1, h2, rfl, hd, ?_⟩⟩
      rw [hn, ho]
      exact .inr ⟨rfl, rfl⟩
    · simp only [sa0.down, sa1.down, sa2.down, sa3.down, sa4.down, sb0.down, sb1.down, sb2.down, sb3.down, ↓reduceIte, Nat.reduceEqDiff, Nat.reduceLT, Nat.reduceLeDiff, Nat.reduceAdd, Nat.reduceSub, Int.reduceToNat, Nat.reduceDiv, Int.reduceLT, Int.reduceLE, Int.reduceNeg, Int.reduceBEq, Int.reduceBNe, Int.reduceAdd, Int.reduceSub, Nat.reduceBEq, reduceCtorEq, Nat.reduceMul, TEP, tis, ens, nts, Try.results31, h0, h1, h2, h8, hd, getI hlt, hv, hneg, wrap_succ (show i < maxLen by omega)]
      refine ⟨⟨by omega, by omega⟩, ⟨rfl, by decide⟩, ⟨by omega, by omega, by omega⟩, .inl ⟨m - 1, by omega, i + 1, by omega, by simp only [sa0.down, sa1.down, sa2.down, sa3.down, sa4.down, sb0.down, sb1.down, sb2.down, sb3.down, ↓reduceIte, Nat.reduceEqDiff, Nat.reduceLT, Nat.reduceLeDiff, Nat.reduceAdd, Nat.reduceSub, Int.reduceToNat, Nat.reduceDiv, Int.reduceLT, Int.reduceLE, Int.reduceNeg, Int.reduceBEq, Int.reduceBNe, Int.reduceAdd, Int.reduceSub, Nat.reduceBEq, reduceCtorEq, Nat.reduceMul, TEP, tis, ens, nts, Try.results31, h0], by simp only [sa0.down, sa1.down, sa2.down, sa3.down, sa4.down, sb0.down, sb1.down, sb2.down, sb3.down, ↓reduceIte, Nat.reduceEqDiff, Nat.reduceLT, Nat.reduceLeDiff, Nat.reduceAdd, Nat.reduceSub, Int.reduceToNat, Nat.reduceDiv, Int.reduceLT, Int.reduceLE, Int.reduceNeg, Int.reduceBEq, Int.reduceBNe, Int.reduceAdd, Int.reduceSub, Nat.reduceBEq, reduceCtorEq, Nat.reduceMul, TEP, tis, ens, nts, Try.results31, h1], by simp only [sa0.down, sa1.down, sa2.down, sa3.down, sa4.down, sb0.down, sb1.down, sb2.down, sb3.down, ↓reduceIte, Nat.reduceEqDiff, Nat.reduceLT, Nat.reduceLeDiff, Nat.reduceAdd, Nat.reduceSub, Int.reduceToNat, Nat.reduceDiv, Int.reduceLT, Int.reduceLE, Int.reduceNeg, Int.reduceBEq, Int.reduceBNe, Int.reduceAdd, Int.reduceSub, Nat.reduceBEq, reduceCtorEq, Nat.reduceMul, TEP, tis, ens, nts, Try.results31, h2], rfl, hd, ?_⟩⟩
      rw [hn]
      exact .inr ⟨by simp only [sa0.down, sa1.down, sa2.down, sa3.down, sa4.down, sb0.down, sb1.down, sb2.down, sb3.down, ↓reduceIte, Nat.reduceEqDiff, Nat.reduceLT, Nat.reduceLeDiff, Nat.reduceAdd, Nat.reduceSub, Int.reduceToNat, Nat.reduceDiv, Int.reduceLT, Int.reduceLE, Int.reduceNeg, Int.reduceBEq, Int.reduceBNe, Int.reduceAdd, Int.reduceSub, Nat.reduceBEq, reduceCtorEq, Nat.reduceMul, TEP, tis, ens, nts, Try.results31, List.length_singleton], by simp only [sa0.down, sa1.down, sa2.down, sa3.down, sa4.down, sb0.down, sb1.down, sb2.down, sb3.down, ↓reduceIte, Nat.reduceEqDiff, Nat.reduceLT, Nat.reduceLeDiff, Nat.reduceAdd, Nat.reduceSub, Int.reduceToNat, Nat.reduceDiv, Int.reduceLT, Int.reduceLE, Int.reduceNeg, Int.reduceBEq, Int.reduceBNe, Int.reduceAdd, Int.reduceSub, Nat.reduceBEq, reduceCtorEq, Nat.reduceMul, TEP, tis, ens, nts, Try.results31, drops_vi]⟩
  · simp only [decide_eq_false_iff_not, Int.ofNat_lt] at hlt
    rw [List.take_of_length_le (by omega)] at hrow
    obtain ⟨hs1, hs2⟩ := hrow.scv
    simp only [sa0.down, sa1.down, sa2.down, sa3.down, sa4.down, sb0.down, sb1.down, sb2.down, sb3.down, ↓reduceIte, Nat.reduceEqDiff, Nat.reduceLT, Nat.reduceLeDiff, Nat.reduceAdd, Nat.reduceSub, Int.reduceToNat, Nat.reduceDiv, Int.reduceLT, Int.reduceLE, Int.reduceNeg, Int.reduceBEq, Int.reduceBNe, Int.reduceAdd, Int.reduceSub, Nat.reduceBEq, reduceCtorEq, Nat.reduceMul, TEP, tis, ens, nts, Try.results31, h0, h1, h2, h8, hd, hs1, hs2]
    refine ACalls.giveAllR (ev_Reach l vars (negs c) hv hln hl.len (by simpa [negs] using hcl) hl.rng (neg_rng hc)) (Reifs.cons (Reif.dat (by simp only [V.dat, dats_cls])) (Reifs.cons (Reif.dat rfl) (Reifs.cons (hrow.reifI rfl) Reifs.nil))) ?_
    rintro r ⟨on, bad, rfl, hfin⟩
    rw [← hfin.badB]
    rcases hrow with ⟨_, _, rfl⟩ | ⟨_, rfl⟩
    · simp only [sa0.down, sa1.down, sa2.down, sa3.down, sa4.down, sb0.down, sb1.down, sb2.down, sb3.down, ↓reduceIte, Nat.reduceEqDiff, Nat.reduceLT, Nat.reduceLeDiff, Nat.reduceAdd, Nat.reduceSub, Int.reduceToNat, Nat.reduceDiv, Int.reduceLT, Int.reduceLE, Int.reduceNeg, Int.reduceBEq, Int.reduceBNe, Int.reduceAdd, Int.reduceSub, Nat.reduceBEq, reduceCtorEq, Nat.reduceMul, TEP, tis, ens, nts, Try.results31, callK, h0, h1, h2, h8, hd]
      exact Reif.dat rfl
    · simp only [sa0.down, sa1.down, sa2.down, sa3.down, sa4.down, sb0.down, sb1.down, sb2.down, sb3.down, ↓reduceIte, Nat.reduceEqDiff, Nat.reduceLT, Nat.reduceLeDiff, Nat.reduceAdd, Nat.reduceSub, Int.reduceToNat, Nat.reduceDiv, Int.reduceLT, Int.reduceLE, Int.reduceNeg, Int.reduceBEq, Int.reduceBNe, Int.reduceAdd, Int.reduceSub, Nat.reduceBEq, reduceCtorEq, Nat.reduceMul, TEP, tis, ens, nts, Try.results31, callK, h0, h1, h2, h8, hd]
      exact Reif.dat rfl

theorem ev_rcan (l : List Cl) (vars : Int) (more : List Cl) : Ev TE 33 [cls l, vi vars, cls more] (vi (ask l vars more)) := by
  refine Ev.bnd fun hb => ?_
  have hlen : more.length ≤ maxLen := by
    simp only [V.bnds, V.bnd, List.length_map] at hb
    exact hb.2.2.1.1
  refine Ev.of_awp Try.func33 rfl (by simp [nts]) (vc_ok mixed _ _ _ _ ?_)
  simp only [sa0.down, sa1.down, sa2.down, sa3.down, sa4.down, sb0.down, sb1.down, sb2.down, sb3.down, ↓reduceIte, Nat.reduceEqDiff, Nat.reduceLT, Nat.reduceLeDiff, Nat.reduceAdd, Nat.reduceSub, Int.reduceToNat, Nat.reduceDiv, Int.reduceLT, Int.reduceLE, Int.reduceNeg, Int.reduceBEq, Int.reduceBNe, Int.reduceAdd, Int.reduceSub, Nat.reduceBEq, reduceCtorEq, Nat.reduceMul, TEP, tis, ens, nts, Try.results33]
  refine ACalls.ev (ev_rcheck l vars) (by simp only [V.dats, V.dat, dats_cls]; rfl) ?_
  simp only [sa0.down, sa1.down, sa2.down, sa3.down, sa4.down, sb0.down, sb1.down, sb2.down, sb3.down, ↓reduceIte, Nat.reduceEqDiff, Nat.reduceLT, Nat.reduceLeDiff, Nat.reduceAdd, Nat.reduceSub, Int.reduceToNat, Nat.reduceDiv, Int.reduceLT, Int.reduceLE, Int.reduceNeg, Int.reduceBEq, Int.reduceBNe, Int.reduceAdd, Int.reduceSub, Nat.reduceBEq, reduceCtorEq, Nat.reduceMul, TEP, tis, ens, nts, Try.results33]
  refine vcB.mk (fun hq => ?_) (fun hq => ?_)
  · have hq : chk l vars ≠ 0 := by simpa using hq
    have h0 : ask l vars more = chk l vars := by unfold ask; rw [if_pos hq]
    rw [h0]
    simp only [sa0.down, sa1.down, sa2.down, sa3.down, sa4.down, sb0.down, sb1.down, sb2.down, sb3.down, ↓reduceIte, Nat.reduceEqDiff, Nat.reduceLT, Nat.reduceLeDiff, Nat.reduceAdd, Nat.reduceSub, Int.reduceToNat, Nat.reduceDiv, Int.reduceLT, Int.reduceLE, Int.reduceNeg, Int.reduceBEq, Int.reduceBNe, Int.reduceAdd, Int.reduceSub, Nat.reduceBEq, reduceCtorEq, Nat.reduceMul, TEP, tis, ens, nts, Try.results33]
    exact Reif.dat rfl
  · have hq : chk l vars = 0 := by simpa using hq
    obtain ⟨k1, k2, _⟩ := chk_vars hq
    have h0 : ask l vars more = if (more.all fun c => c.all (lit vars)) = true then 0 else 1 := by unfold ask; rw [if_neg (by simp [hq])]
    rw [h0]
    simp only [sa0.down, sa1.down, sa2.down, sa3.down, sa4.down, sb0.down, sb1.down, sb2.down, sb3.down, ↓reduceIte, Nat.reduceEqDiff, Nat.reduceLT, Nat.reduceLeDiff, Nat.reduceAdd, Nat.reduceSub, Int.reduceToNat, Nat.reduceDiv, Int.reduceLT, Int.reduceLE, Int.reduceNeg, Int.reduceBEq, Int.reduceBNe, Int.reduceAdd, Int.reduceSub, Nat.reduceBEq, reduceCtorEq, Nat.reduceMul, TEP, tis, ens, nts, Try.results33]
    refine awp_loop (fun m f h => ∃ i, m + i = more.length ∧ f.t 1 = vi vars ∧ f.t 2 = cls more ∧ f.t 8 = vi i ∧ f.d = [] ∧ h = [] ∧ (more.take i).all (fun c => c.all (lit vars)) = true) more.length ⟨0, by simp, rfl, rfl, rfl, rfl, rfl, by simp⟩ ?_
    rintro m f h ⟨i, hm, h1, h2, h8, hd, rfl, hall⟩
    refine vc_ok mixed _ _ _ _ ?_
    simp only [sa0.down, sa1.down, sa2.down, sa3.down, sa4.down, sb0.down, sb1.down, sb2.down, sb3.down, ↓reduceIte, Nat.reduceEqDiff, Nat.reduceLT, Nat.reduceLeDiff, Nat.reduceAdd, Nat.reduceSub, Int.reduceToNat, Nat.reduceDiv, Int.reduceLT, Int.reduceLE, Int.reduceNeg, Int.reduceBEq, Int.reduceBNe, Int.reduceAdd, Int.reduceSub, Nat.reduceBEq, reduceCtorEq, Nat.reduceMul, TEP, tis, ens, nts, Try.results33, h1, h2, h8, hd]
    refine vcB.mk (fun hc => ?_) (fun hc => ?_)
    · simp only [decide_eq_true_eq, Int.ofNat_lt] at hc
      simp only [sa0.down, sa1.down, sa2.down, sa3.down, sa4.down, sb0.down, sb1.down, sb2.down, sb3.down, ↓reduceIte, Nat.reduceEqDiff, Nat.reduceLT, Nat.reduceLeDiff, Nat.reduceAdd, Nat.reduceSub, Int.reduceToNat, Nat.reduceDiv, Int.reduceLT, Int.reduceLE, Int.reduceNeg, Int.reduceBEq, Int.reduceBNe, Int.reduceAdd, Int.reduceSub, Nat.reduceBEq, reduceCtorEq, Nat.reduceMul, TEP, tis, ens, nts, Try.results33, h1, h2, h8, hd, getC hc]
      refine ⟨⟨by omega, by omega⟩, ACalls.ev (ev_literals more[i] vars k1 k2) (by simp only [V.dats, V.dat, dats_vi]; rfl) ?_⟩
      cases hA : more[i].all (lit vars) with
      | false =>
        have hno : (more.all fun c => c.all (lit vars)) = false := by
          rw [Bool.eq_false_iff]
          intro h
          have := List.all_eq_true.1 h _ (List.getElem_mem hc)
          rw [hA] at this
          cases this
        simp only [sa0.down, sa1.down, sa2.down, sa3.down, sa4.down, sb0.down, sb1.down, sb2.down, sb3.down, ↓reduceIte, Nat.reduceEqDiff, Nat.reduceLT, Nat.reduceLeDiff, Nat.reduceAdd, Nat.reduceSub, Int.reduceToNat, Nat.reduceDiv, Int.reduceLT, Int.reduceLE, Int.reduceNeg, Int.reduceBEq, Int.reduceBNe, Int.reduceAdd, Int.reduceSub, Nat.reduceBEq, reduceCtorEq, Nat.reduceMul, TEP, tis, ens, nts, Try.results33, h1, h2, h8, hd]
        exact Reif.eq rfl (by rw [hno]; rfl)
      | true =>
        simp only [sa0.down, sa1.down, sa2.down, sa3.down, sa4.down, sb0.down, sb1.down, sb2.down, sb3.down, ↓reduceIte, Nat.reduceEqDiff, Nat.reduceLT, Nat.reduceLeDiff, Nat.reduceAdd, Nat.reduceSub, Int.reduceToNat, Nat.reduceDiv, Int.reduceLT, Int.reduceLE, Int.reduceNeg, Int.reduceBEq, Int.reduceBNe, Int.reduceAdd, Int.reduceSub, Nat.reduceBEq, reduceCtorEq, Nat.reduceMul, TEP, tis, ens, nts, Try.results33, h1, h2, h8, hd, wrap_succ (show i < maxLen by omega)]
        exact .inl ⟨m - 1, by omega, i + 1, by omega, h1, h2, rfl, hd, rfl, by rw [List.take_add_one, List.all_append, hall, List.getElem?_eq_getElem hc, Option.toList_some, List.all_cons, hA]; rfl⟩
    · simp only [decide_eq_false_iff_not, Int.ofNat_lt] at hc
      rw [List.take_of_length_le (by omega)] at hall
      simp only [sa0.down, sa1.down, sa2.down, sa3.down, sa4.down, sb0.down, sb1.down, sb2.down, sb3.down, ↓reduceIte, Nat.reduceEqDiff, Nat.reduceLT, Nat.reduceLeDiff, Nat.reduceAdd, Nat.reduceSub, Int.reduceToNat, Nat.reduceDiv, Int.reduceLT, Int.reduceLE, Int.reduceNeg, Int.reduceBEq, Int.reduceBNe, Int.reduceAdd, Int.reduceSub, Nat.reduceBEq, reduceCtorEq, Nat.reduceMul, TEP, tis, ens, nts, Try.results33, h1, h2, h8, hd]
      exact Reif.eq rfl (by rw [hall]; rfl)

theorem ev_rRup (l : List Cl) (vars : Int) (c : Cl) (hcl : ∀ c ∈ l, c.length ≤ 1000000) (hc : c.length ≤ 1000000) : Ev TE 14 [cls l, vi vars, ints c] (.tup [.bool (rupV l vars c).1, vi (rupV l vars c).2]) := by
  refine Ev.of_awp Try.func14 rfl (by simp [nts]) (vc_ok mixed _ _ _ _ ?_)
  simp only [sa0.down, sa1.down, sa2.down, sa3.down, sa4.down, sb0.down, sb1.down, sb2.down, sb3.down, ↓reduceIte, Nat.reduceEqDiff, Nat.reduceLT, Nat.reduceLeDiff, Nat.reduceAdd, Nat.reduceSub, Int.reduceToNat, Nat.reduceDiv, Int.reduceLT, Int.reduceLE, Int.reduceNeg, Int.reduceBEq, Int.reduceBNe, Int.reduceAdd, Int.reduceSub, Nat.reduceBEq, reduceCtorEq, Nat.reduceMul, TEP, tis, ens, nts, Try.results14]
  refine ACalls.ev (ev_rcheck l vars) (by simp only [V.dats, V.dat, dats_cls]; rfl) ?_
  simp only [sa0.down, sa1.down, sa2.down, sa3.down, sa4.down, sb0.down, sb1.down, sb2.down, sb3.down, ↓reduceIte, Nat.reduceEqDiff, Nat.reduceLT, Nat.reduceLeDiff, Nat.reduceAdd, Nat.reduceSub, Int.reduceToNat, Nat.reduceDiv, Int.reduceLT, Int.reduceLE, Int.reduceNeg, Int.reduceBEq, Int.reduceBNe, Int.reduceAdd, Int.reduceSub, Nat.reduceBEq, reduceCtorEq, Nat.reduceMul, TEP, tis, ens, nts, Try.results14]
  refine vcB.mk (fun hq => ?_) (fun hq => ?_)
  · have hq : chk l vars ≠ 0 := by simpa using hq
    have ha : ask l vars [c] = chk l vars := by unfold ask; rw [if_pos hq]
    have h0 : rupV l vars c = (false, chk l vars) := by unfold rupV; rw [ha, if_pos hq]
    rw [h0]
    simp only [sa0.down, sa1.down, sa2.down, sa3.down, sa4.down, sb0.down, sb1.down, sb2.down, sb3.down, ↓reduceIte, Nat.reduceEqDiff, Nat.reduceLT, Nat.reduceLeDiff, Nat.reduceAdd, Nat.reduceSub, Int.reduceToNat, Nat.reduceDiv, Int.reduceLT, Int.reduceLE, Int.reduceNeg, Int.reduceBEq, Int.reduceBNe, Int.reduceAdd, Int.reduceSub, Nat.reduceBEq, reduceCtorEq, Nat.reduceMul, TEP, tis, ens, nts, Try.results14]
    exact Reif.dat rfl
  · have hq : chk l vars = 0 := by simpa using hq
    obtain ⟨k1, k2, k3, k4⟩ := chk_vars hq
    obtain ⟨n, rfl⟩ : ∃ n : Nat, vars = n := ⟨vars.toNat, by omega⟩
    simp only [sa0.down, sa1.down, sa2.down, sa3.down, sa4.down, sb0.down, sb1.down, sb2.down, sb3.down, ↓reduceIte, Nat.reduceEqDiff, Nat.reduceLT, Nat.reduceLeDiff, Nat.reduceAdd, Nat.reduceSub, Int.reduceToNat, Nat.reduceDiv, Int.reduceLT, Int.reduceLE, Int.reduceNeg, Int.reduceBEq, Int.reduceBNe, Int.reduceAdd, Int.reduceSub, Nat.reduceBEq, reduceCtorEq, Nat.reduceMul, TEP, tis, ens, nts, Try.results14]
    refine ACalls.ev (ev_literals c n k1 k2) (by simp only [V.dats, V.dat, dats_vi]; rfl) ?_
    have ha : ask l n [c] = if c.all (lit n) = true then 0 else 1 := by unfold ask; rw [if_neg (by simp [hq])]; simp
    cases hA : c.all (lit n) with
    | false =>
      have h0 : rupV l n c = (false, 1) := by unfold rupV; rw [ha, hA]; rfl
      rw [h0]
      simp only [sa0.down, sa1.down, sa2.down, sa3.down, sa4.down, sb0.down, sb1.down, sb2.down, sb3.down, ↓reduceIte, Nat.reduceEqDiff, Nat.reduceLT, Nat.reduceLeDiff, Nat.reduceAdd, Nat.reduceSub, Int.reduceToNat, Nat.reduceDiv, Int.reduceLT, Int.reduceLE, Int.reduceNeg, Int.reduceBEq, Int.reduceBNe, Int.reduceAdd, Int.reduceSub, Nat.reduceBEq, reduceCtorEq, Nat.reduceMul, TEP, tis, ens, nts, Try.results14]
      exact Reif.dat rfl
    | true =>
      have h0 : rupV l n c = (badB l (negs c), 0) := by unfold rupV; rw [ha, hA]; rfl
      have hln : LitN l n := ⟨fun c hc b hb => by have := lit_rng (k4 c hc b hb); omega, hcl⟩
      rw [h0]
      simp only [sa0.down, sa1.down, sa2.down, sa3.down, sa4.down, sb0.down, sb1.down, sb2.down, sb3.down, ↓reduceIte, Nat.reduceEqDiff, Nat.reduceLT, Nat.reduceLeDiff, Nat.reduceAdd, Nat.reduceSub, Int.reduceToNat, Nat.reduceDiv, Int.reduceLT, Int.reduceLE, Int.reduceNeg, Int.reduceBEq, Int.reduceBNe, Int.reduceAdd, Int.reduceSub, Nat.reduceBEq, reduceCtorEq, Nat.reduceMul, TEP, tis, ens, nts, Try.results14]
      refine ACalls.ev (ev_rrup l n c (by omega) (by omega) hln hc (fun b hb => by have := lit_rng (List.all_eq_true.1 hA b hb); omega)) (by simp only [V.dats, V.dat, dats_cls, dats_vi]; rfl) ?_
      simp only [sa0.down, sa1.down, sa2.down, sa3.down, sa4.down, sb0.down, sb1.down, sb2.down, sb3.down, ↓reduceIte, Nat.reduceEqDiff, Nat.reduceLT, Nat.reduceLeDiff, Nat.reduceAdd, Nat.reduceSub, Int.reduceToNat, Nat.reduceDiv, Int.reduceLT, Int.reduceLE, Int.reduceNeg, Int.reduceBEq, Int.reduceBNe, Int.reduceAdd, Int.reduceSub, Nat.reduceBEq, reduceCtorEq, Nat.reduceMul, TEP, tis, ens, nts, Try.results14]
      exact Reif.dat rfl

end Go.Proofs.Ytegnjoonhabicaa
