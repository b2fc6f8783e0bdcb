/- Functions of the program, part 5. -/
import Derived.Test.YtbikgbnhngmohaaDoorF4
set_option linter.unusedVariables false
set_option linter.unusedSimpArgs false
set_option linter.unnecessarySimpa false
namespace Go.Proofs.YtbikgbnhngmohaaDoor
open Go Go.Proofs Go.Abs Go.RowKit

theorem below_ext {w w' : World} (x : Below w.heap.size w w') : WExt w w' := ⟨x.os, x.tape, x.output, x.size, x.block⟩

theorem ev_atoi (ds : By) (hd : ∀ c ∈ ds, isDig c = true) (hne : ds ≠ []) (hl : ds.length ≤ 100000) :
    EvR TE 29 [.str ds] fun v => (v = .tup [vi (valA 0 ds : Nat), .nili] ∧ valA 0 ds < 9223372036854775808) ∨ (∃ n, v = .tup [vi n, .iface 91 .any] ∧ ¬ valA 0 ds < 9223372036854775808) := by
  intro ok w vs hs hl2
  simp only [VList, VRel] at hl2
  obtain ⟨y, ys, rfl, ⟨s, rfl, hsd, _⟩, rfl⟩ := hl2
  have hsz : s.size = ds.length := by rw [size_data, hsd]
  have ha := atoi_digits hd hne
  rw [← hsd] at ha
  by_cases hv : valA 0 ds < 9223372036854775808
  · rw [hsd, if_pos hv, ← hsd] at ha
    rw [hsd] at ha
    refine Calls.mono (atoi_ok s (by omega) _ (by rw [hsd]; exact ha) w) ?_
    rintro en w' ⟨rfl, hw⟩
    refine ⟨_, _, .inl ⟨rfl, hv⟩, rfl, ?_, ?_⟩
    · rcases hw with rfl | ⟨t, rfl⟩
      · exact WExt.refl _
      · exact below_ext (Lib.bytesWorld_below _ _ _)
    · simp only [VRel, VList]
      exact ⟨_, rfl, _, _, rfl, rfl, _, _, rfl, rfl, rfl⟩
  · rw [hsd, if_neg hv] at ha
    obtain ⟨_, cs, ty, fz, hg0, hg1⟩ := hs.exa 3 _ rfl
    obtain ⟨te, pe, rfl⟩ := hg1
    refine Calls.mono (atoi_range s (by omega) (by rw [hsd]; exact ha) (.iface te pe) w (by
      have hg0 : w.heap[3]? = some (.cells #[.iface te pe] ty fz) := hg0
      simp [World.cell?, hg0]) (.inr ⟨te, pe, rfl⟩)) ?_
    rintro en w' ⟨N, rfl, _, _, hb⟩
    refine ⟨_, _, .inr ⟨Lib.atoiSat s.data.toList, rfl, hv⟩, rfl, below_ext hb, ?_⟩
    simp only [VRel, VList]
    exact ⟨_, rfl, _, _, rfl, rfl, _, _, rfl, ⟨_, rfl, trivial⟩, rfl⟩

/-- What get tells. -/
def getV (ds : By) : Int × V := if good ds then ((valA 0 ds : Nat), .nili) else (0, werr 3)

theorem reif_werr (k : Int) : Reif TE [.cells [.iface 23 (.int .i64 k)]] (.iface 40 (.lp 0 0)) (werr k) :=
  Reif.iface (Reif.lp rfl (Reifs.dat rfl) rfl rfl Nat.zero_lt_one rfl)

theorem ev_get (ds : By) (hd : ∀ c ∈ ds, isDig c = true) (hne : ds ≠ []) (hl : ds.length ≤ 100000) : Ev TE 24 [.str ds] (.tup [vi (getV ds).1, (getV ds).2]) := by
  refine Ev.of_awp Tryd.func24 rfl (by simp [nts]) (vc_ok mixed _ _ _ _ ?_)
  simp only [sa0.down, sa1.down, sa2.down, sa3.down, sa4.down, sb0.down, sb1.down, sb2.down, sb3.down, ↓reduceIte, Nat.reduceEqDiff, Nat.reduceLT, Nat.reduceLeDiff, Nat.reduceAdd, Nat.reduceSub, Int.reduceToNat, Nat.reduceDiv, Int.reduceLT, Int.reduceLE, Int.reduceNeg, Int.reduceBEq, Int.reduceBNe, Int.reduceAdd, Int.reduceSub, Nat.reduceBEq, reduceCtorEq, Nat.reduceMul, TEP, pvNilI, tis, ens, nts, Tryd.results24]
  refine ACalls.evR (ev_atoi ds hd hne hl) rfl ?_
  rintro r (⟨rfl, hv⟩ | ⟨n, rfl, hv⟩)
  · simp only [sa0.down, sa1.down, sa2.down, sa3.down, sa4.down, sb0.down, sb1.down, sb2.down, sb3.down, ↓reduceIte, Nat.reduceEqDiff, Nat.reduceLT, Nat.reduceLeDiff, Nat.reduceAdd, Nat.reduceSub, Int.reduceToNat, Nat.reduceDiv, Int.reduceLT, Int.reduceLE, Int.reduceNeg, Int.reduceBEq, Int.reduceBNe, Int.reduceAdd, Int.reduceSub, Nat.reduceBEq, reduceCtorEq, Nat.reduceMul, TEP, pvNilI, tis, ens, nts, Tryd.results24]
    refine ACalls.ev (ev_put _) rfl ?_
    by_cases hm : valA 0 ds ≤ 2147483647
    · have hp : putV (valA 0 ds : Nat) = (Lib.decDigits (valA 0 ds), 0) := by
        unfold putV
        rw [if_pos (by simp [fitsB]; omega), itoa_nat]
      rw [hp]
      by_cases hc : Lib.decDigits (valA 0 ds) = ds
      · have hg : getV ds = (((valA 0 ds : Nat) : Int), V.nili) := by unfold getV; rw [if_pos ⟨hm, hc⟩]
        have hb : (Lib.decDigits (valA 0 ds) == ds) = true := by simp [hc]
        rw [hg]
        simp only [sa0.down, sa1.down, sa2.down, sa3.down, sa4.down, sb0.down, sb1.down, sb2.down, sb3.down, ↓reduceIte, Nat.reduceEqDiff, Nat.reduceLT, Nat.reduceLeDiff, Nat.reduceAdd, Nat.reduceSub, Int.reduceToNat, Nat.reduceDiv, Int.reduceLT, Int.reduceLE, Int.reduceNeg, Int.reduceBEq, Int.reduceBNe, Int.reduceAdd, Int.reduceSub, Nat.reduceBEq, reduceCtorEq, Nat.reduceMul, TEP, pvNilI, tis, ens, nts, Tryd.results24, hb]
        exact Reif.dat rfl
      · have hg : getV ds = (0, werr 3) := by unfold getV; rw [if_neg (fun h => hc h.2)]
        have hb : (Lib.decDigits (valA 0 ds) == ds) = false := by simp [hc]
        rw [hg]
        simp only [sa0.down, sa1.down, sa2.down, sa3.down, sa4.down, sb0.down, sb1.down, sb2.down, sb3.down, ↓reduceIte, Nat.reduceEqDiff, Nat.reduceLT, Nat.reduceLeDiff, Nat.reduceAdd, Nat.reduceSub, Int.reduceToNat, Nat.reduceDiv, Int.reduceLT, Int.reduceLE, Int.reduceNeg, Int.reduceBEq, Int.reduceBNe, Int.reduceAdd, Int.reduceSub, Nat.reduceBEq, reduceCtorEq, Nat.reduceMul, TEP, pvNilI, tis, ens, nts, Tryd.results24, hb]
        exact ⟨nofun, nofun, Reif.tup (Reifs.cons (Reif.dat rfl) (Reifs.cons (reif_werr 3) Reifs.nil))⟩
    · have hp : putV (valA 0 ds : Nat) = ([], 3) := by
        unfold putV
        rw [if_neg (by simp [fitsB]; omega)]
      have hg : getV ds = (0, werr 3) := by unfold getV; rw [if_neg (fun h => hm h.1)]
      rw [hp, hg]
      simp only [sa0.down, sa1.down, sa2.down, sa3.down, sa4.down, sb0.down, sb1.down, sb2.down, sb3.down, ↓reduceIte, Nat.reduceEqDiff, Nat.reduceLT, Nat.reduceLeDiff, Nat.reduceAdd, Nat.reduceSub, Int.reduceToNat, Nat.reduceDiv, Int.reduceLT, Int.reduceLE, Int.reduceNeg, Int.reduceBEq, Int.reduceBNe, Int.reduceAdd, Int.reduceSub, Nat.reduceBEq, reduceCtorEq, Nat.reduceMul, TEP, pvNilI, tis, ens, nts, Tryd.results24]
      exact ⟨nofun, nofun, Reif.tup (Reifs.cons (Reif.dat rfl) (Reifs.cons (reif_werr 3) Reifs.nil))⟩
  · have hg : getV ds = (0, werr 3) := by
      unfold getV
      rw [if_neg]
      rintro ⟨h, _⟩
      omega
    rw [hg]
    simp only [sa0.down, sa1.down, sa2.down, sa3.down, sa4.down, sb0.down, sb1.down, sb2.down, sb3.down, ↓reduceIte, Nat.reduceEqDiff, Nat.reduceLT, Nat.reduceLeDiff, Nat.reduceAdd, Nat.reduceSub, Int.reduceToNat, Nat.reduceDiv, Int.reduceLT, Int.reduceLE, Int.reduceNeg, Int.reduceBEq, Int.reduceBNe, Int.reduceAdd, Int.reduceSub, Nat.reduceBEq, reduceCtorEq, Nat.reduceMul, TEP, pvNilI, tis, ens, nts, Tryd.results24]
    refine ACalls.ev (ev_put _) rfl ?_
    simp only [sa0.down, sa1.down, sa2.down, sa3.down, sa4.down, sb0.down, sb1.down, sb2.down, sb3.down, ↓reduceIte, Nat.reduceEqDiff, Nat.reduceLT, Nat.reduceLeDiff, Nat.reduceAdd, Nat.reduceSub, Int.reduceToNat, Nat.reduceDiv, Int.reduceLT, Int.reduceLE, Int.reduceNeg, Int.reduceBEq, Int.reduceBNe, Int.reduceAdd, Int.reduceSub, Nat.reduceBEq, reduceCtorEq, Nat.reduceMul, TEP, pvNilI, tis, ens, nts, Tryd.results24]
    exact ⟨nofun, nofun, Reif.tup (Reifs.cons (Reif.dat rfl) (Reifs.cons (reif_werr 3) Reifs.nil))⟩

/-- Where digits end. -/
def endR (s : By) (at_ : Int) : Int := if at_ < 0 ∨ (s.length : Int) < at_ then at_ else at_ + ((s.drop at_.toNat).takeWhile isDig).length

theorem getD_at {α : Type} {l : List α} {i : Nat} {d : α} (h : i < l.length) : l.getD i d = l[i] := by simp [List.getD_eq_getElem?_getD, h]

theorem tw_len {l : By} {i : Nat} (hi : i ≤ l.length) (h1 : (l.take i).all isDig = true) (h2 : i < l.length → isDig (l.getD i 0) = false) : (l.takeWhile isDig).length = i := by
  have h3 : l.takeWhile isDig = l.take i ++ (l.drop i).takeWhile isDig := by
    conv => lhs; rw [← List.take_append_drop i l]
    exact List.takeWhile_append_of_pos (List.all_eq_true.1 h1)
  have h4 : (l.drop i).takeWhile isDig = [] := by
    by_cases hl : i < l.length
    · rw [List.drop_eq_getElem_cons hl]
      have := h2 hl
      rw [getD_at hl] at this
      rw [List.takeWhile_cons, this]; rfl
    · rw [List.drop_eq_nil_of_le (by omega)]; rfl
  rw [h3, h4, List.append_nil, List.length_take]
  omega

theorem wrapn {n : Int} (h1 : -9223372036854775808 ≤ n) (h2 : n ≤ 9223372036854775807) : IntKind.i64.wrap n = n := wrap64 h1 (by omega)

theorem getD_drop {l : By} {p i : Nat} : (l.drop p).getD i 0 = l.getD (p + i) 0 := by
  rw [List.getD_eq_getElem?_getD, List.getD_eq_getElem?_getD, List.getElem?_drop]

theorem ev_end (s : By) (a : Int) (hl : s.length ≤ 100000) : Ev TE 22 [.str s, vi a] (vi (endR s a)) := by
  have hM : maxLen = 9223372036854775807 := rfl
  refine Ev.of_awp Tryd.func22 rfl (by simp [nts]) (vc_ok mixed _ _ _ _ ?_)
  simp only [sa0.down, sa1.down, sa2.down, sa3.down, sa4.down, sb0.down, sb1.down, sb2.down, sb3.down, ↓reduceIte, Nat.reduceEqDiff, Nat.reduceLT, Nat.reduceLeDiff, Nat.reduceAdd, Nat.reduceSub, Int.reduceToNat, Nat.reduceDiv, Int.reduceLT, Int.reduceLE, Int.reduceNeg, Int.reduceBEq, Int.reduceBNe, Int.reduceAdd, Int.reduceSub, Nat.reduceBEq, reduceCtorEq, Nat.reduceMul, TEP, pvNilI, tis, ens, nts, Tryd.results22]
  refine vcB.mk (fun hc => ?_) (fun hc => ?_)
  · have h0 : endR s a = a := by
      unfold endR
      rw [if_pos (by simpa using hc)]
    rw [h0]
    simp only [sa0.down, sa1.down, sa2.down, sa3.down, sa4.down, sb0.down, sb1.down, sb2.down, sb3.down, ↓reduceIte, Nat.reduceEqDiff, Nat.reduceLT, Nat.reduceLeDiff, Nat.reduceAdd, Nat.reduceSub, Int.reduceToNat, Nat.reduceDiv, Int.reduceLT, Int.reduceLE, Int.reduceNeg, Int.reduceBEq, Int.reduceBNe, Int.reduceAdd, Int.reduceSub, Nat.reduceBEq, reduceCtorEq, Nat.reduceMul, TEP, pvNilI, tis, ens, nts, Tryd.results22]
    exact Reif.dat rfl
  · simp only [Bool.or_eq_false_iff, decide_eq_false_iff_not] at hc
    obtain ⟨p, rfl⟩ : ∃ p : Nat, a = p := ⟨a.toNat, by omega⟩
    have hp : p ≤ s.length := by omega
    have h0 : endR s p = p + ((s.drop p).takeWhile isDig).length := by
      unfold endR
      rw [if_neg (by omega), Int.toNat_natCast]
    have hsub : IntKind.i64.wrap ((s.length : Int) - p) = ((s.length - p : Nat) : Int) := by rw [wrapn (by omega) (by omega)]; omega
    rw [h0]
    simp only [sa0.down, sa1.down, sa2.down, sa3.down, sa4.down, sb0.down, sb1.down, sb2.down, sb3.down, ↓reduceIte, Nat.reduceEqDiff, Nat.reduceLT, Nat.reduceLeDiff, Nat.reduceAdd, Nat.reduceSub, Int.reduceToNat, Nat.reduceDiv, Int.reduceLT, Int.reduceLE, Int.reduceNeg, Int.reduceBEq, Int.reduceBNe, Int.reduceAdd, Int.reduceSub, Nat.reduceBEq, reduceCtorEq, Nat.reduceMul, TEP, pvNilI, tis, ens, nts, Tryd.results22, hsub]
    have hdl : (s.drop p).length = s.length - p := List.length_drop
    refine awp_loop (fun m f h => ∃ i, m + i = s.length - p ∧ f.t 0 = .str s ∧ f.t 1 = vi p ∧ f.t 18 = vi ((s.length - p : Nat) : Int) ∧ f.t 19 = vi i ∧ f.d = [] ∧ h = [] ∧ ((s.drop p).take i).all isDig = true) (s.length - p) ⟨0, by omega, rfl, rfl, rfl, rfl, rfl, rfl, by simp⟩ ?_
    rintro m f h ⟨i, hm, h0, h1, h18, h19, hd, rfl, hall⟩
    have hadd : IntKind.i64.wrap ((p : Int) + i) = ((p + i : Nat) : Int) := by rw [wrapn (by omega) (by omega)]; omega
    refine vc_ok mixed _ _ _ _ ?_
    simp only [sa0.down, sa1.down, sa2.down, sa3.down, sa4.down, sb0.down, sb1.down, sb2.down, sb3.down, ↓reduceIte, Nat.reduceEqDiff, Nat.reduceLT, Nat.reduceLeDiff, Nat.reduceAdd, Nat.reduceSub, Int.reduceToNat, Nat.reduceDiv, Int.reduceLT, Int.reduceLE, Int.reduceNeg, Int.reduceBEq, Int.reduceBNe, Int.reduceAdd, Int.reduceSub, Nat.reduceBEq, reduceCtorEq, Nat.reduceMul, TEP, pvNilI, tis, ens, nts, Tryd.results22, h0, h1, h18, h19, hd]
    refine vcB.mk (fun hlt => ?_) (fun hlt => ?_)
    · simp only [decide_eq_true_eq, Int.ofNat_lt] at hlt
      simp only [sa0.down, sa1.down, sa2.down, sa3.down, sa4.down, sb0.down, sb1.down, sb2.down, sb3.down, ↓reduceIte, Nat.reduceEqDiff, Nat.reduceLT, Nat.reduceLeDiff, Nat.reduceAdd, Nat.reduceSub, Int.reduceToNat, Nat.reduceDiv, Int.reduceLT, Int.reduceLE, Int.reduceNeg, Int.reduceBEq, Int.reduceBNe, Int.reduceAdd, Int.reduceSub, Nat.reduceBEq, reduceCtorEq, Nat.reduceMul, TEP, pvNilI, tis, ens, nts, Tryd.results22, h0, h1, h18, h19, hd, hadd]
      refine ⟨⟨by omega, by omega⟩, ACalls.ev (ev_digit (s.getD (p + i) 0)) rfl ?_⟩
      cases hD : isDig (s.getD (p + i) 0) with
      | false =>
        have hlen := tw_len (l := s.drop p) (i := i) (by omega) hall (fun _ => by rw [getD_drop]; exact hD)
        simp only [sa0.down, sa1.down, sa2.down, sa3.down, sa4.down, sb0.down, sb1.down, sb2.down, sb3.down, ↓reduceIte, Nat.reduceEqDiff, Nat.reduceLT, Nat.reduceLeDiff, Nat.reduceAdd, Nat.reduceSub, Int.reduceToNat, Nat.reduceDiv, Int.reduceLT, Int.reduceLE, Int.reduceNeg, Int.reduceBEq, Int.reduceBNe, Int.reduceAdd, Int.reduceSub, Nat.reduceBEq, reduceCtorEq, Nat.reduceMul, TEP, pvNilI, tis, ens, nts, Tryd.results22, h0, h1, h18, h19, hd, hadd]
        exact Reif.eq rfl (by rw [hlen]; rfl)
      | true =>
        simp only [sa0.down, sa1.down, sa2.down, sa3.down, sa4.down, sb0.down, sb1.down, sb2.down, sb3.down, ↓reduceIte, Nat.reduceEqDiff, Nat.reduceLT, Nat.reduceLeDiff, Nat.reduceAdd, Nat.reduceSub, Int.reduceToNat, Nat.reduceDiv, Int.reduceLT, Int.reduceLE, Int.reduceNeg, Int.reduceBEq, Int.reduceBNe, Int.reduceAdd, Int.reduceSub, Nat.reduceBEq, reduceCtorEq, Nat.reduceMul, TEP, pvNilI, tis, ens, nts, Tryd.results22, h0, h1, h18, h19, hd, wrap_succ (show i < maxLen by omega)]
        refine .inl ⟨m - 1, by omega, i + 1, by omega, h0, h1, h18, rfl, hd, rfl, ?_⟩
        have hli : i < (s.drop p).length := by omega
        have hD2 : isDig ((s.drop p)[i]) = true := by rw [← getD_at (d := 0) hli, getD_drop]; exact hD
        rw [List.take_add_one, List.all_append, hall, List.getElem?_eq_getElem hli, Option.toList_some, List.all_cons, hD2]
        rfl
    · simp only [decide_eq_false_iff_not, Int.ofNat_lt] at hlt
      have hlen := tw_len (l := s.drop p) (i := i) (by omega) hall (fun h => by omega)
      simp only [sa0.down, sa1.down, sa2.down, sa3.down, sa4.down, sb0.down, sb1.down, sb2.down, sb3.down, ↓reduceIte, Nat.reduceEqDiff, Nat.reduceLT, Nat.reduceLeDiff, Nat.reduceAdd, Nat.reduceSub, Int.reduceToNat, Nat.reduceDiv, Int.reduceLT, Int.reduceLE, Int.reduceNeg, Int.reduceBEq, Int.reduceBNe, Int.reduceAdd, Int.reduceSub, Nat.reduceBEq, reduceCtorEq, Nat.reduceMul, TEP, pvNilI, tis, ens, nts, Tryd.results22, h0, h1, h18, h19, hd]
      exact Reif.eq rfl (by rw [hlen]; congr 1; omega)

/-- What Get tells. -/
def getR (s : By) (a : Int) : Int × Int × Int :=
  if a < 0 ∨ (s.length : Int) < a then (0, a, 3)
  else if (s.drop a.toNat).takeWhile isDig ≠ [] ∧ good ((s.drop a.toNat).takeWhile isDig) then ((valA 0 ((s.drop a.toNat).takeWhile isDig) : Nat), a + ((s.drop a.toNat).takeWhile isDig).length, 0)
  else (0, a, 3)

theorem ev_Get (s : By) (a : Int) (hl : s.length ≤ 100000) : Ev TE 12 [.str s, vi a] (.tup [vi (getR s a).1, vi (getR s a).2.1, vi (getR s a).2.2]) := by
  have hM : maxLen = 9223372036854775807 := rfl
  refine Ev.of_awp Tryd.func12 rfl (by simp [nts]) (vc_ok mixed _ _ _ _ ?_)
  simp only [sa0.down, sa1.down, sa2.down, sa3.down, sa4.down, sb0.down, sb1.down, sb2.down, sb3.down, ↓reduceIte, Nat.reduceEqDiff, Nat.reduceLT, Nat.reduceLeDiff, Nat.reduceAdd, Nat.reduceSub, Int.reduceToNat, Nat.reduceDiv, Int.reduceLT, Int.reduceLE, Int.reduceNeg, Int.reduceBEq, Int.reduceBNe, Int.reduceAdd, Int.reduceSub, Nat.reduceBEq, reduceCtorEq, Nat.reduceMul, TEP, pvNilI, tis, ens, nts, Tryd.results12]
  refine ACalls.ev (ev_end s a hl) rfl ?_
  by_cases hc : a < 0 ∨ (s.length : Int) < a
  · have h0 : endR s a = a := by unfold endR; rw [if_pos hc]
    have h1 : getR s a = (0, a, 3) := by unfold getR; rw [if_pos hc]
    rw [h0, h1]
    simp only [sa0.down, sa1.down, sa2.down, sa3.down, sa4.down, sb0.down, sb1.down, sb2.down, sb3.down, ↓reduceIte, Nat.reduceEqDiff, Nat.reduceLT, Nat.reduceLeDiff, Nat.reduceAdd, Nat.reduceSub, Int.reduceToNat, Nat.reduceDiv, Int.reduceLT, Int.reduceLE, Int.reduceNeg, Int.reduceBEq, Int.reduceBNe, Int.reduceAdd, Int.reduceSub, Nat.reduceBEq, reduceCtorEq, Nat.reduceMul, TEP, pvNilI, tis, ens, nts, Tryd.results12, beq_self_eq_true]
    refine ⟨nofun, nofun, ACalls.lend (ev_told_err 0 a a 3) (Reifs.cons (Reif.dat rfl) (Reifs.cons (Reif.dat rfl) (Reifs.cons (Reif.dat rfl) (Reifs.cons (reif_werr 3) Reifs.nil)))) rfl ?_⟩
    simp only [sa0.down, sa1.down, sa2.down, sa3.down, sa4.down, sb0.down, sb1.down, sb2.down, sb3.down, ↓reduceIte, Nat.reduceEqDiff, Nat.reduceLT, Nat.reduceLeDiff, Nat.reduceAdd, Nat.reduceSub, Int.reduceToNat, Nat.reduceDiv, Int.reduceLT, Int.reduceLE, Int.reduceNeg, Int.reduceBEq, Int.reduceBNe, Int.reduceAdd, Int.reduceSub, Nat.reduceBEq, reduceCtorEq, Nat.reduceMul, TEP, pvNilI, tis, ens, nts, Tryd.results12]
    exact Reif.dat rfl
  · obtain ⟨p, rfl⟩ : ∃ p : Nat, a = p := ⟨a.toNat, by omega⟩
    have hp : p ≤ s.length := by omega
    have h0 : endR s p = p + ((s.drop p).takeWhile isDig).length := by
      unfold endR
      rw [if_neg hc, Int.toNat_natCast]
    have h1 : getR s p = if (s.drop p).takeWhile isDig ≠ [] ∧ good ((s.drop p).takeWhile isDig) then (((valA 0 ((s.drop p).takeWhile isDig) : Nat) : Int), (p : Int) + ((s.drop p).takeWhile isDig).length, (0 : Int)) else (0, (p : Int), 3) := by
      unfold getR
      rw [if_neg hc, Int.toNat_natCast]
    have hpre : (s.drop p).take ((s.drop p).takeWhile isDig).length = (s.drop p).takeWhile isDig := (List.prefix_iff_eq_take.1 (List.takeWhile_prefix isDig)).symm
    have hdg : ∀ c ∈ (s.drop p).takeWhile isDig, isDig c = true := fun c hc => List.all_eq_true.1 List.all_takeWhile c hc
    have hlen : ((s.drop p).takeWhile isDig).length ≤ s.length - p := by
      have := (List.takeWhile_prefix (l := s.drop p) isDig).length_le
      rwa [List.length_drop] at this
    rw [h0, h1]
    generalize (s.drop p).takeWhile isDig = ds at hpre hdg hlen
    by_cases hne : ds = []
    · subst hne
      rw [if_neg (fun h => h.1 rfl)]
      have hb : ((p : Int) + ((0 : Nat) : Int) == (p : Int)) = true := by simp
      simp only [sa0.down, sa1.down, sa2.down, sa3.down, sa4.down, sb0.down, sb1.down, sb2.down, sb3.down, ↓reduceIte, Nat.reduceEqDiff, Nat.reduceLT, Nat.reduceLeDiff, Nat.reduceAdd, Nat.reduceSub, Int.reduceToNat, Nat.reduceDiv, Int.reduceLT, Int.reduceLE, Int.reduceNeg, Int.reduceBEq, Int.reduceBNe, Int.reduceAdd, Int.reduceSub, Nat.reduceBEq, reduceCtorEq, Nat.reduceMul, TEP, pvNilI, tis, ens, nts, Tryd.results12, hb]
      refine ⟨nofun, nofun, ACalls.lend (ev_told_err 0 p p 3) (Reifs.cons (Reif.dat rfl) (Reifs.cons (Reif.dat rfl) (Reifs.cons (Reif.dat rfl) (Reifs.cons (reif_werr 3) Reifs.nil)))) rfl ?_⟩
      simp only [sa0.down, sa1.down, sa2.down, sa3.down, sa4.down, sb0.down, sb1.down, sb2.down, sb3.down, ↓reduceIte, Nat.reduceEqDiff, Nat.reduceLT, Nat.reduceLeDiff, Nat.reduceAdd, Nat.reduceSub, Int.reduceToNat, Nat.reduceDiv, Int.reduceLT, Int.reduceLE, Int.reduceNeg, Int.reduceBEq, Int.reduceBNe, Int.reduceAdd, Int.reduceSub, Nat.reduceBEq, reduceCtorEq, Nat.reduceMul, TEP, pvNilI, tis, ens, nts, Tryd.results12]
      exact Reif.dat rfl
    · have hpos : 0 < ds.length := List.length_pos_iff.2 hne
      have hb : ((p : Int) + (ds.length : Nat) == (p : Int)) = false := by
        rw [beq_eq_false_iff_ne]; omega
      have hsl : List.take (((p : Int) + (ds.length : Nat)).toNat - p) (List.drop p s) = ds := by
        rw [show ((p : Int) + (ds.length : Nat)).toNat - p = ds.length by omega, hpre]
      simp only [sa0.down, sa1.down, sa2.down, sa3.down, sa4.down, sb0.down, sb1.down, sb2.down, sb3.down, ↓reduceIte, Nat.reduceEqDiff, Nat.reduceLT, Nat.reduceLeDiff, Nat.reduceAdd, Nat.reduceSub, Int.reduceToNat, Nat.reduceDiv, Int.reduceLT, Int.reduceLE, Int.reduceNeg, Int.reduceBEq, Int.reduceBNe, Int.reduceAdd, Int.reduceSub, Nat.reduceBEq, reduceCtorEq, Nat.reduceMul, TEP, pvNilI, tis, ens, nts, Tryd.results12, hb, hsl]
      refine ⟨⟨by omega, by omega, by omega⟩, ACalls.ev (ev_get ds hdg hne (by omega)) rfl ?_⟩
      unfold getV
      by_cases hg : good ds
      · rw [if_pos hg, if_pos ⟨hne, hg⟩]
        simp only [sa0.down, sa1.down, sa2.down, sa3.down, sa4.down, sb0.down, sb1.down, sb2.down, sb3.down, ↓reduceIte, Nat.reduceEqDiff, Nat.reduceLT, Nat.reduceLeDiff, Nat.reduceAdd, Nat.reduceSub, Int.reduceToNat, Nat.reduceDiv, Int.reduceLT, Int.reduceLE, Int.reduceNeg, Int.reduceBEq, Int.reduceBNe, Int.reduceAdd, Int.reduceSub, Nat.reduceBEq, reduceCtorEq, Nat.reduceMul, TEP, pvNilI, tis, ens, nts, Tryd.results12]
        refine ACalls.ev (ev_told_ok _ _ _) rfl ?_
        simp only [sa0.down, sa1.down, sa2.down, sa3.down, sa4.down, sb0.down, sb1.down, sb2.down, sb3.down, ↓reduceIte, Nat.reduceEqDiff, Nat.reduceLT, Nat.reduceLeDiff, Nat.reduceAdd, Nat.reduceSub, Int.reduceToNat, Nat.reduceDiv, Int.reduceLT, Int.reduceLE, Int.reduceNeg, Int.reduceBEq, Int.reduceBNe, Int.reduceAdd, Int.reduceSub, Nat.reduceBEq, reduceCtorEq, Nat.reduceMul, TEP, pvNilI, tis, ens, nts, Tryd.results12]
        exact Reif.dat rfl
      · rw [if_neg hg, if_neg (fun h => hg h.2)]
        simp only [sa0.down, sa1.down, sa2.down, sa3.down, sa4.down, sb0.down, sb1.down, sb2.down, sb3.down, ↓reduceIte, Nat.reduceEqDiff, Nat.reduceLT, Nat.reduceLeDiff, Nat.reduceAdd, Nat.reduceSub, Int.reduceToNat, Nat.reduceDiv, Int.reduceLT, Int.reduceLE, Int.reduceNeg, Int.reduceBEq, Int.reduceBNe, Int.reduceAdd, Int.reduceSub, Nat.reduceBEq, reduceCtorEq, Nat.reduceMul, TEP, pvNilI, tis, ens, nts, Tryd.results12]
        refine ⟨trivial, ACalls.ev (ev_told_err _ _ _ 3) rfl ?_⟩
        simp only [sa0.down, sa1.down, sa2.down, sa3.down, sa4.down, sb0.down, sb1.down, sb2.down, sb3.down, ↓reduceIte, Nat.reduceEqDiff, Nat.reduceLT, Nat.reduceLeDiff, Nat.reduceAdd, Nat.reduceSub, Int.reduceToNat, Nat.reduceDiv, Int.reduceLT, Int.reduceLE, Int.reduceNeg, Int.reduceBEq, Int.reduceBNe, Int.reduceAdd, Int.reduceSub, Nat.reduceBEq, reduceCtorEq, Nat.reduceMul, TEP, pvNilI, tis, ens, nts, Tryd.results12]
        exact Reif.dat rfl

end Go.Proofs.YtbikgbnhngmohaaDoor
