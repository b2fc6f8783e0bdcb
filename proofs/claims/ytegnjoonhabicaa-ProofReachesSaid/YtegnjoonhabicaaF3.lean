/- Functions of the program, part 3. -/
import Derived.Test.YtegnjoonhabicaaF2
set_option linter.unusedVariables false
set_option linter.unusedSimpArgs false
set_option linter.unnecessarySimpa false
namespace Go.Proofs.Ytegnjoonhabicaa
open Go Go.Proofs Go.Abs

/-- The first place. -/
def idx {α : Type} (l : List α) (p : α → Bool) : Int := match l.findIdx? p with | some i => i | none => -1

theorem idx_some {α : Type} {l : List α} {p : α → Bool} {i : Nat} (h : i < l.length) (hn : ∀ x ∈ l.take i, p x = false) (hb : p l[i] = true) : idx l p = i := by
  have : l.findIdx? p = some i := by
    rw [List.findIdx?_eq_some_iff_getElem]
    refine ⟨h, hb, fun j hj => ?_⟩
    have : l[j] ∈ l.take i := by
      rw [List.mem_take_iff_getElem]
      exact ⟨j, by omega, rfl⟩
    simp [hn _ this]
  simp [idx, this]
theorem idx_none {α : Type} {l : List α} {p : α → Bool} (hn : ∀ x ∈ l, p x = false) : idx l p = -1 := by
  have : l.findIdx? p = none := by
    rw [List.findIdx?_eq_none_iff]
    simpa using hn
  simp [idx, this]
theorem idx_has {α : Type} (l : List α) (p : α → Bool) : decide (0 ≤ idx l p) = l.any p := by
  cases h : l.any p with
  | false =>
    rw [idx_none (by simpa using h)]
    rfl
  | true =>
    have : ∃ x ∈ l, p x = true := by simpa using h
    unfold idx
    cases hb : l.findIdx? p with
    | none =>
      obtain ⟨x, hx, hx2⟩ := this
      have := (List.findIdx?_eq_none_iff.1 hb) x hx
      simp [hx2] at this
    | some i => simp

theorem ev_ixI (c : Cl) (q : FuncId) (caps : List V) (p : Int → Bool) (he : enters P q = true) (hd : V.dats caps = true) (hq : ∀ x ∈ c, Ev TE q (vi x :: caps) (.bool (p x))) : Ev TE 58 [ints c, .fn (.func q) [] caps] (vi (idx c p)) := by
  refine Ev.bnd fun hb => ?_
  have hlen := ints_len hb
  refine Ev.of_awp Try.func58 rfl (by simp [nts]) (vc_ok mixed _ _ _ _ ?_)
  simp only [sa0.down, sa1.down, sa2.down, sa3.down, sa4.down, sb0.down, sb1.down, sb2.down, sb3.down, ↓reduceIte, Nat.reduceEqDiff, Nat.reduceLT, Nat.reduceLeDiff, Nat.reduceAdd, Nat.reduceSub, Int.reduceToNat, Nat.reduceDiv, Int.reduceLT, Int.reduceLE, Int.reduceNeg, Int.reduceBEq, Int.reduceBNe, Int.reduceAdd, Int.reduceSub, Nat.reduceBEq, reduceCtorEq, Nat.reduceMul, TEP, tis, ens, nts, Try.results58]
  refine awp_loop (fun m f h => ∃ i, m + i = c.length ∧ f.t 0 = ints c ∧ f.t 1 = .fn (.func q) [] caps ∧ f.t 7 = .int .i64 (c.length : Int) ∧ f.t 8 = .int .i64 (i : Int) ∧ f.d = [] ∧ ∀ x ∈ c.take i, p x = false) c.length ⟨0, by simp, rfl, rfl, rfl, rfl, rfl, by simp⟩ ?_
  rintro m f h ⟨i, hm, h0, h1, h7, h8, hdd, hall⟩
  refine vc_ok mixed _ _ _ _ ?_
  simp only [sa0.down, sa1.down, sa2.down, sa3.down, sa4.down, sb0.down, sb1.down, sb2.down, sb3.down, ↓reduceIte, Nat.reduceEqDiff, Nat.reduceLT, Nat.reduceLeDiff, Nat.reduceAdd, Nat.reduceSub, Int.reduceToNat, Nat.reduceDiv, Int.reduceLT, Int.reduceLE, Int.reduceNeg, Int.reduceBEq, Int.reduceBNe, Int.reduceAdd, Int.reduceSub, Nat.reduceBEq, reduceCtorEq, Nat.reduceMul, TEP, tis, ens, nts, Try.results58, h0, h1, h7, h8, hdd]
  refine vcB.mk (fun hc => ?_) (fun hc => ?_)
  · simp only [decide_eq_true_eq, Int.ofNat_lt] at hc
    simp only [sa0.down, sa1.down, sa2.down, sa3.down, sa4.down, sb0.down, sb1.down, sb2.down, sb3.down, ↓reduceIte, Nat.reduceEqDiff, Nat.reduceLT, Nat.reduceLeDiff, Nat.reduceAdd, Nat.reduceSub, Int.reduceToNat, Nat.reduceDiv, Int.reduceLT, Int.reduceLE, Int.reduceNeg, Int.reduceBEq, Int.reduceBNe, Int.reduceAdd, Int.reduceSub, Nat.reduceBEq, reduceCtorEq, Nat.reduceMul, TEP, tis, ens, nts, Try.results58, h0, h1, h7, h8, hdd, getI hc, he]
    refine ⟨⟨by omega, by omega⟩, ACalls.ev (hq _ (List.getElem_mem _)) (by simp [V.dats, V.dat, hd]) ?_⟩
    simp only [sa0.down, sa1.down, sa2.down, sa3.down, sa4.down, sb0.down, sb1.down, sb2.down, sb3.down, ↓reduceIte, Nat.reduceEqDiff, Nat.reduceLT, Nat.reduceLeDiff, Nat.reduceAdd, Nat.reduceSub, Int.reduceToNat, Nat.reduceDiv, Int.reduceLT, Int.reduceLE, Int.reduceNeg, Int.reduceBEq, Int.reduceBNe, Int.reduceAdd, Int.reduceSub, Nat.reduceBEq, reduceCtorEq, Nat.reduceMul, TEP, tis, ens, nts, Try.results58, h0, h1, h7, h8, hdd]
    refine vcB.mk (fun hc' => ?_) (fun hc' => ?_)
    · simp only [sa0.down, sa1.down, sa2.down, sa3.down, sa4.down, sb0.down, sb1.down, sb2.down, sb3.down, ↓reduceIte, Nat.reduceEqDiff, Nat.reduceLT, Nat.reduceLeDiff, Nat.reduceAdd, Nat.reduceSub, Int.reduceToNat, Nat.reduceDiv, Int.reduceLT, Int.reduceLE, Int.reduceNeg, Int.reduceBEq, Int.reduceBNe, Int.reduceAdd, Int.reduceSub, Nat.reduceBEq, reduceCtorEq, Nat.reduceMul, TEP, tis, ens, nts, Try.results58, hdd]
      rw [idx_some hc hall hc']
      exact Reif.dat rfl
    · simp only [sa0.down, sa1.down, sa2.down, sa3.down, sa4.down, sb0.down, sb1.down, sb2.down, sb3.down, ↓reduceIte, Nat.reduceEqDiff, Nat.reduceLT, Nat.reduceLeDiff, Nat.reduceAdd, Nat.reduceSub, Int.reduceToNat, Nat.reduceDiv, Int.reduceLT, Int.reduceLE, Int.reduceNeg, Int.reduceBEq, Int.reduceBNe, Int.reduceAdd, Int.reduceSub, Nat.reduceBEq, reduceCtorEq, Nat.reduceMul, TEP, tis, ens, nts, Try.results58, h0, h1, h7, h8, hdd, wrap_succ (show i < maxLen by omega)]
      exact .inl ⟨m - 1, by omega, i + 1, by omega, h0, h1, h7, rfl, hdd, mem_take_succ hc hall hc'⟩
  · simp only [decide_eq_false_iff_not, Int.ofNat_lt] at hc
    simp only [sa0.down, sa1.down, sa2.down, sa3.down, sa4.down, sb0.down, sb1.down, sb2.down, sb3.down, ↓reduceIte, Nat.reduceEqDiff, Nat.reduceLT, Nat.reduceLeDiff, Nat.reduceAdd, Nat.reduceSub, Int.reduceToNat, Nat.reduceDiv, Int.reduceLT, Int.reduceLE, Int.reduceNeg, Int.reduceBEq, Int.reduceBNe, Int.reduceAdd, Int.reduceSub, Nat.reduceBEq, reduceCtorEq, Nat.reduceMul, TEP, tis, ens, nts, Try.results58, h0, h1, h7, h8, hdd]
    rw [List.take_of_length_le (by omega)] at hall
    rw [idx_none hall]
    exact Reif.dat rfl

theorem ev_ixC (l : List Cl) (q : FuncId) (caps : List V) (p : Cl → Bool) (he : enters P q = true) (hd : V.dats caps = true) (hq : ∀ x ∈ l, Ev TE q (ints x :: caps) (.bool (p x))) : Ev TE 59 [cls l, .fn (.func q) [] caps] (vi (idx l p)) := by
  refine Ev.bnd fun hb => ?_
  have hlen := cls_len hb
  refine Ev.of_awp Try.func59 rfl (by simp [nts]) (vc_ok mixed _ _ _ _ ?_)
  simp only [sa0.down, sa1.down, sa2.down, sa3.down, sa4.down, sb0.down, sb1.down, sb2.down, sb3.down, ↓reduceIte, Nat.reduceEqDiff, Nat.reduceLT, Nat.reduceLeDiff, Nat.reduceAdd, Nat.reduceSub, Int.reduceToNat, Nat.reduceDiv, Int.reduceLT, Int.reduceLE, Int.reduceNeg, Int.reduceBEq, Int.reduceBNe, Int.reduceAdd, Int.reduceSub, Nat.reduceBEq, reduceCtorEq, Nat.reduceMul, TEP, tis, ens, nts, Try.results59]
  refine awp_loop (fun m f h => ∃ i, m + i = l.length ∧ f.t 0 = cls l ∧ f.t 1 = .fn (.func q) [] caps ∧ f.t 7 = .int .i64 (l.length : Int) ∧ f.t 8 = .int .i64 (i : Int) ∧ f.d = [] ∧ ∀ x ∈ l.take i, p x = false) l.length ⟨0, by simp, rfl, rfl, rfl, rfl, rfl, by simp⟩ ?_
  rintro m f h ⟨i, hm, h0, h1, h7, h8, hdd, hall⟩
  refine vc_ok mixed _ _ _ _ ?_
  simp only [sa0.down, sa1.down, sa2.down, sa3.down, sa4.down, sb0.down, sb1.down, sb2.down, sb3.down, ↓reduceIte, Nat.reduceEqDiff, Nat.reduceLT, Nat.reduceLeDiff, Nat.reduceAdd, Nat.reduceSub, Int.reduceToNat, Nat.reduceDiv, Int.reduceLT, Int.reduceLE, Int.reduceNeg, Int.reduceBEq, Int.reduceBNe, Int.reduceAdd, Int.reduceSub, Nat.reduceBEq, reduceCtorEq, Nat.reduceMul, TEP, tis, ens, nts, Try.results59, h0, h1, h7, h8, hdd]
  refine vcB.mk (fun hc => ?_) (fun hc => ?_)
  · simp only [decide_eq_true_eq, Int.ofNat_lt] at hc
    simp only [sa0.down, sa1.down, sa2.down, sa3.down, sa4.down, sb0.down, sb1.down, sb2.down, sb3.down, ↓reduceIte, Nat.reduceEqDiff, Nat.reduceLT, Nat.reduceLeDiff, Nat.reduceAdd, Nat.reduceSub, Int.reduceToNat, Nat.reduceDiv, Int.reduceLT, Int.reduceLE, Int.reduceNeg, Int.reduceBEq, Int.reduceBNe, Int.reduceAdd, Int.reduceSub, Nat.reduceBEq, reduceCtorEq, Nat.reduceMul, TEP, tis, ens, nts, Try.results59, h0, h1, h7, h8, hdd, getC hc, he]
    refine ⟨⟨by omega, by omega⟩, ACalls.ev (hq _ (List.getElem_mem _)) (by simp [V.dats, V.dat, hd]) ?_⟩
    simp only [sa0.down, sa1.down, sa2.down, sa3.down, sa4.down, sb0.down, sb1.down, sb2.down, sb3.down, ↓reduceIte, Nat.reduceEqDiff, Nat.reduceLT, Nat.reduceLeDiff, Nat.reduceAdd, Nat.reduceSub, Int.reduceToNat, Nat.reduceDiv, Int.reduceLT, Int.reduceLE, Int.reduceNeg, Int.reduceBEq, Int.reduceBNe, Int.reduceAdd, Int.reduceSub, Nat.reduceBEq, reduceCtorEq, Nat.reduceMul, TEP, tis, ens, nts, Try.results59, h0, h1, h7, h8, hdd]
    refine vcB.mk (fun hc' => ?_) (fun hc' => ?_)
    · simp only [sa0.down, sa1.down, sa2.down, sa3.down, sa4.down, sb0.down, sb1.down, sb2.down, sb3.down, ↓reduceIte, Nat.reduceEqDiff, Nat.reduceLT, Nat.reduceLeDiff, Nat.reduceAdd, Nat.reduceSub, Int.reduceToNat, Nat.reduceDiv, Int.reduceLT, Int.reduceLE, Int.reduceNeg, Int.reduceBEq, Int.reduceBNe, Int.reduceAdd, Int.reduceSub, Nat.reduceBEq, reduceCtorEq, Nat.reduceMul, TEP, tis, ens, nts, Try.results59, hdd]
      rw [idx_some hc hall hc']
      exact Reif.dat rfl
    · simp only [sa0.down, sa1.down, sa2.down, sa3.down, sa4.down, sb0.down, sb1.down, sb2.down, sb3.down, ↓reduceIte, Nat.reduceEqDiff, Nat.reduceLT, Nat.reduceLeDiff, Nat.reduceAdd, Nat.reduceSub, Int.reduceToNat, Nat.reduceDiv, Int.reduceLT, Int.reduceLE, Int.reduceNeg, Int.reduceBEq, Int.reduceBNe, Int.reduceAdd, Int.reduceSub, Nat.reduceBEq, reduceCtorEq, Nat.reduceMul, TEP, tis, ens, nts, Try.results59, h0, h1, h7, h8, hdd, wrap_succ (show i < maxLen by omega)]
      exact .inl ⟨m - 1, by omega, i + 1, by omega, h0, h1, h7, rfl, hdd, mem_take_succ hc hall hc'⟩
  · simp only [decide_eq_false_iff_not, Int.ofNat_lt] at hc
    simp only [sa0.down, sa1.down, sa2.down, sa3.down, sa4.down, sb0.down, sb1.down, sb2.down, sb3.down, ↓reduceIte, Nat.reduceEqDiff, Nat.reduceLT, Nat.reduceLeDiff, Nat.reduceAdd, Nat.reduceSub, Int.reduceToNat, Nat.reduceDiv, Int.reduceLT, Int.reduceLE, Int.reduceNeg, Int.reduceBEq, Int.reduceBNe, Int.reduceAdd, Int.reduceSub, Nat.reduceBEq, reduceCtorEq, Nat.reduceMul, TEP, tis, ens, nts, Try.results59, h0, h1, h7, h8, hdd]
    rw [List.take_of_length_le (by omega)] at hall
    rw [idx_none hall]
    exact Reif.dat rfl

theorem ev_ctI (c : Cl) (q : FuncId) (caps : List V) (p : Int → Bool) (he : enters P q = true) (hd : V.dats caps = true) (hq : ∀ x ∈ c, Ev TE q (vi x :: caps) (.bool (p x))) : Ev TE 42 [ints c, .fn (.func q) [] caps] (.bool (c.any p)) := by
  refine Ev.of_awp Try.func42 rfl (by simp [nts]) (vc_ok mixed _ _ _ _ ?_)
  simp only [sa0.down, sa1.down, sa2.down, sa3.down, sa4.down, sb0.down, sb1.down, sb2.down, sb3.down, ↓reduceIte, Nat.reduceEqDiff, Nat.reduceLT, Nat.reduceLeDiff, Nat.reduceAdd, Nat.reduceSub, Int.reduceToNat, Nat.reduceDiv, Int.reduceLT, Int.reduceLE, Int.reduceNeg, Int.reduceBEq, Int.reduceBNe, Int.reduceAdd, Int.reduceSub, Nat.reduceBEq, reduceCtorEq, Nat.reduceMul, TEP, tis, ens, nts, Try.results42]
  refine ACalls.ev (ev_ixI c q caps p he hd hq) (by simp [V.dats, V.dat, hd]) ?_
  simp only [sa0.down, sa1.down, sa2.down, sa3.down, sa4.down, sb0.down, sb1.down, sb2.down, sb3.down, ↓reduceIte, Nat.reduceEqDiff, Nat.reduceLT, Nat.reduceLeDiff, Nat.reduceAdd, Nat.reduceSub, Int.reduceToNat, Nat.reduceDiv, Int.reduceLT, Int.reduceLE, Int.reduceNeg, Int.reduceBEq, Int.reduceBNe, Int.reduceAdd, Int.reduceSub, Nat.reduceBEq, reduceCtorEq, Nat.reduceMul, TEP, tis, ens, nts, Try.results42]
  exact Reif.eq rfl (by rw [idx_has])
theorem ev_ctC (l : List Cl) (q : FuncId) (caps : List V) (p : Cl → Bool) (he : enters P q = true) (hd : V.dats caps = true) (hq : ∀ x ∈ l, Ev TE q (ints x :: caps) (.bool (p x))) : Ev TE 43 [cls l, .fn (.func q) [] caps] (.bool (l.any p)) := by
  refine Ev.of_awp Try.func43 rfl (by simp [nts]) (vc_ok mixed _ _ _ _ ?_)
  simp only [sa0.down, sa1.down, sa2.down, sa3.down, sa4.down, sb0.down, sb1.down, sb2.down, sb3.down, ↓reduceIte, Nat.reduceEqDiff, Nat.reduceLT, Nat.reduceLeDiff, Nat.reduceAdd, Nat.reduceSub, Int.reduceToNat, Nat.reduceDiv, Int.reduceLT, Int.reduceLE, Int.reduceNeg, Int.reduceBEq, Int.reduceBNe, Int.reduceAdd, Int.reduceSub, Nat.reduceBEq, reduceCtorEq, Nat.reduceMul, TEP, tis, ens, nts, Try.results43]
  refine ACalls.ev (ev_ixC l q caps p he hd hq) (by simp [V.dats, V.dat, hd]) ?_
  simp only [sa0.down, sa1.down, sa2.down, sa3.down, sa4.down, sb0.down, sb1.down, sb2.down, sb3.down, ↓reduceIte, Nat.reduceEqDiff, Nat.reduceLT, Nat.reduceLeDiff, Nat.reduceAdd, Nat.reduceSub, Int.reduceToNat, Nat.reduceDiv, Int.reduceLT, Int.reduceLE, Int.reduceNeg, Int.reduceBEq, Int.reduceBNe, Int.reduceAdd, Int.reduceSub, Nat.reduceBEq, reduceCtorEq, Nat.reduceMul, TEP, tis, ens, nts, Try.results43]
  exact Reif.eq rfl (by rw [idx_has])

theorem lit_odd {vars a : Int} (h0 : 0 ≤ vars) (h1 : vars ≤ 20000) : (a == 0 || decide (a < IntKind.i64.wrap (0 - vars)) || decide (vars < a)) = !lit vars a := by
  rw [wrapn (n := 0 - vars) (by omega) (by omega), Int.zero_sub]
  unfold lit
  by_cases h : a = 0
  · subst h; simp
  · have : (a == 0) = false := by simpa using h
    rw [this]
    simp only [ne_eq, h, not_false_eq_true, decide_true, Bool.false_or, Bool.true_and, Bool.not_and]
    congr 1
    · rw [← decide_not]; congr 1; simp
    · rw [← decide_not]; congr 1; simp

theorem ev_check1 (a vars : Int) (h0 : 0 ≤ vars) (h1 : vars ≤ 20000) : Ev TE 56 [vi a, .ip (vi vars)] (.bool (!lit vars a)) := by
  refine Ev.of_awp Try.func56 rfl (by simp [nts]) (vc_ok mixed _ _ _ _ ?_)
  simp only [sa0.down, sa1.down, sa2.down, sa3.down, sa4.down, sb0.down, sb1.down, sb2.down, sb3.down, ↓reduceIte, Nat.reduceEqDiff, Nat.reduceLT, Nat.reduceLeDiff, Nat.reduceAdd, Nat.reduceSub, Int.reduceToNat, Nat.reduceDiv, Int.reduceLT, Int.reduceLE, Int.reduceNeg, Int.reduceBEq, Int.reduceBNe, Int.reduceAdd, Int.reduceSub, Nat.reduceBEq, reduceCtorEq, Nat.reduceMul, TEP, tis, ens, nts, Try.results56]
  exact Reif.eq rfl (by rw [lit_odd h0 h1])
theorem ev_can1 (a vars : Int) (h0 : 0 ≤ vars) (h1 : vars ≤ 20000) : Ev TE 44 [vi a, .ip (vi vars)] (.bool (!lit vars a)) := by
  refine Ev.of_awp Try.func44 rfl (by simp [nts]) (vc_ok mixed _ _ _ _ ?_)
  simp only [sa0.down, sa1.down, sa2.down, sa3.down, sa4.down, sb0.down, sb1.down, sb2.down, sb3.down, ↓reduceIte, Nat.reduceEqDiff, Nat.reduceLT, Nat.reduceLeDiff, Nat.reduceAdd, Nat.reduceSub, Int.reduceToNat, Nat.reduceDiv, Int.reduceLT, Int.reduceLE, Int.reduceNeg, Int.reduceBEq, Int.reduceBNe, Int.reduceAdd, Int.reduceSub, Nat.reduceBEq, reduceCtorEq, Nat.reduceMul, TEP, tis, ens, nts, Try.results44]
  exact Reif.eq rfl (by rw [lit_odd h0 h1])
theorem any_not {c : Cl} {vars : Int} : (c.any fun a => !lit vars a) = !(c.all (lit vars)) := by simp [List.not_all_eq_any_not]
theorem any_not2 {l : List Cl} {vars : Int} : (l.any fun c => !(c.all (lit vars))) = !(l.all fun c => c.all (lit vars)) := by simp [List.not_all_eq_any_not]
theorem ev_check2 (c : Cl) (vars : Int) (h0 : 0 ≤ vars) (h1 : vars ≤ 20000) : Ev TE 57 [ints c, .ip (.fn (.func 56) [] [.ip (vi vars)])] (.bool (!(c.all (lit vars)))) := by
  refine Ev.of_awp Try.func57 rfl (by simp [nts]) (vc_ok mixed _ _ _ _ ?_)
  simp only [sa0.down, sa1.down, sa2.down, sa3.down, sa4.down, sb0.down, sb1.down, sb2.down, sb3.down, ↓reduceIte, Nat.reduceEqDiff, Nat.reduceLT, Nat.reduceLeDiff, Nat.reduceAdd, Nat.reduceSub, Int.reduceToNat, Nat.reduceDiv, Int.reduceLT, Int.reduceLE, Int.reduceNeg, Int.reduceBEq, Int.reduceBNe, Int.reduceAdd, Int.reduceSub, Nat.reduceBEq, reduceCtorEq, Nat.reduceMul, TEP, tis, ens, nts, Try.results57]
  refine ACalls.ev (ev_ctI c 56 [.ip (vi vars)] (fun a => !lit vars a) rfl rfl fun x _ => ev_check1 x vars h0 h1) rfl ?_
  rw [any_not]
  simp only [sa0.down, sa1.down, sa2.down, sa3.down, sa4.down, sb0.down, sb1.down, sb2.down, sb3.down, ↓reduceIte, Nat.reduceEqDiff, Nat.reduceLT, Nat.reduceLeDiff, Nat.reduceAdd, Nat.reduceSub, Int.reduceToNat, Nat.reduceDiv, Int.reduceLT, Int.reduceLE, Int.reduceNeg, Int.reduceBEq, Int.reduceBNe, Int.reduceAdd, Int.reduceSub, Nat.reduceBEq, reduceCtorEq, Nat.reduceMul, TEP, tis, ens, nts, Try.results57]
  exact Reif.dat rfl
theorem ev_can2 (c : Cl) (vars : Int) (h0 : 0 ≤ vars) (h1 : vars ≤ 20000) : Ev TE 45 [ints c, .ip (.fn (.func 44) [] [.ip (vi vars)])] (.bool (!(c.all (lit vars)))) := by
  refine Ev.of_awp Try.func45 rfl (by simp [nts]) (vc_ok mixed _ _ _ _ ?_)
  simp only [sa0.down, sa1.down, sa2.down, sa3.down, sa4.down, sb0.down, sb1.down, sb2.down, sb3.down, ↓reduceIte, Nat.reduceEqDiff, Nat.reduceLT, Nat.reduceLeDiff, Nat.reduceAdd, Nat.reduceSub, Int.reduceToNat, Nat.reduceDiv, Int.reduceLT, Int.reduceLE, Int.reduceNeg, Int.reduceBEq, Int.reduceBNe, Int.reduceAdd, Int.reduceSub, Nat.reduceBEq, reduceCtorEq, Nat.reduceMul, TEP, tis, ens, nts, Try.results45]
  refine ACalls.ev (ev_ctI c 44 [.ip (vi vars)] (fun a => !lit vars a) rfl rfl fun x _ => ev_can1 x vars h0 h1) rfl ?_
  rw [any_not]
  simp only [sa0.down, sa1.down, sa2.down, sa3.down, sa4.down, sb0.down, sb1.down, sb2.down, sb3.down, ↓reduceIte, Nat.reduceEqDiff, Nat.reduceLT, Nat.reduceLeDiff, Nat.reduceAdd, Nat.reduceSub, Int.reduceToNat, Nat.reduceDiv, Int.reduceLT, Int.reduceLE, Int.reduceNeg, Int.reduceBEq, Int.reduceBNe, Int.reduceAdd, Int.reduceSub, Nat.reduceBEq, reduceCtorEq, Nat.reduceMul, TEP, tis, ens, nts, Try.results45]
  exact Reif.dat rfl

theorem ev_check (l : List Cl) (vars : Int) : Ev TE 39 [cls l, vi vars] (vi (chk l vars)) := by
  refine Ev.of_awp Try.func39 rfl (by simp [nts]) (vc_ok mixed _ _ _ _ ?_)
  simp only [sa0.down, sa1.down, sa2.down, sa3.down, sa4.down, sb0.down, sb1.down, sb2.down, sb3.down, ↓reduceIte, Nat.reduceEqDiff, Nat.reduceLT, Nat.reduceLeDiff, Nat.reduceAdd, Nat.reduceSub, Int.reduceToNat, Nat.reduceDiv, Int.reduceLT, Int.reduceLE, Int.reduceNeg, Int.reduceBEq, Int.reduceBNe, Int.reduceAdd, Int.reduceSub, Nat.reduceBEq, reduceCtorEq, Nat.reduceMul, TEP, tis, ens, nts, Try.results39]
  refine vcB.mk (fun hc => ?_) (fun hc => ?_)
  · simp only [sa0.down, sa1.down, sa2.down, sa3.down, sa4.down, sb0.down, sb1.down, sb2.down, sb3.down, ↓reduceIte, Nat.reduceEqDiff, Nat.reduceLT, Nat.reduceLeDiff, Nat.reduceAdd, Nat.reduceSub, Int.reduceToNat, Nat.reduceDiv, Int.reduceLT, Int.reduceLE, Int.reduceNeg, Int.reduceBEq, Int.reduceBNe, Int.reduceAdd, Int.reduceSub, Nat.reduceBEq, reduceCtorEq, Nat.reduceMul, TEP, tis, ens, nts, Try.results39]
    exact Reif.eq rfl (by rw [chk_lim]; simpa [Bool.or_assoc] using hc)
  · obtain ⟨hv0, hv1, hr⟩ := chk_rest (l := l) (vars := vars) (by simpa [Bool.or_assoc] using hc)
    rw [hr]
    simp only [sa0.down, sa1.down, sa2.down, sa3.down, sa4.down, sb0.down, sb1.down, sb2.down, sb3.down, ↓reduceIte, Nat.reduceEqDiff, Nat.reduceLT, Nat.reduceLeDiff, Nat.reduceAdd, Nat.reduceSub, Int.reduceToNat, Nat.reduceDiv, Int.reduceLT, Int.reduceLE, Int.reduceNeg, Int.reduceBEq, Int.reduceBNe, Int.reduceAdd, Int.reduceSub, Nat.reduceBEq, reduceCtorEq, Nat.reduceMul, TEP, tis, ens, nts, Try.results39]
    refine ACalls.lend (ev_ctC l 57 [.ip (.fn (.func 56) [] [.ip (vi vars)])] (fun c => !(c.all (lit vars))) rfl rfl fun x _ => ev_check2 x vars hv0 hv1)
      (Reifs.cons (Reif.dat rfl) (Reifs.cons (Reif.fn Reifs.nil (Reifs.cons (Reif.lp rfl (Reifs.cons (Reif.fn Reifs.nil (Reifs.cons (Reif.lp rfl (Reifs.dat rfl) rfl rfl (by simp [V.vc]) rfl) Reifs.nil)) Reifs.nil) rfl rfl (by simp [V.vc]) rfl) Reifs.nil)) Reifs.nil)) rfl ?_
    rw [any_not2]
    simp only [sa0.down, sa1.down, sa2.down, sa3.down, sa4.down, sb0.down, sb1.down, sb2.down, sb3.down, ↓reduceIte, Nat.reduceEqDiff, Nat.reduceLT, Nat.reduceLeDiff, Nat.reduceAdd, Nat.reduceSub, Int.reduceToNat, Nat.reduceDiv, Int.reduceLT, Int.reduceLE, Int.reduceNeg, Int.reduceBEq, Int.reduceBNe, Int.reduceAdd, Int.reduceSub, Nat.reduceBEq, reduceCtorEq, Nat.reduceMul, TEP, tis, ens, nts, Try.results39]
    refine vcB.mk (fun hc' => ?_) (fun hc' => ?_)
    · simp only [sa0.down, sa1.down, sa2.down, sa3.down, sa4.down, sb0.down, sb1.down, sb2.down, sb3.down, ↓reduceIte, Nat.reduceEqDiff, Nat.reduceLT, Nat.reduceLeDiff, Nat.reduceAdd, Nat.reduceSub, Int.reduceToNat, Nat.reduceDiv, Int.reduceLT, Int.reduceLE, Int.reduceNeg, Int.reduceBEq, Int.reduceBNe, Int.reduceAdd, Int.reduceSub, Nat.reduceBEq, reduceCtorEq, Nat.reduceMul, TEP, tis, ens, nts, Try.results39]
      rw [if_neg (by simpa using hc')]
      exact Reif.dat rfl
    · simp only [sa0.down, sa1.down, sa2.down, sa3.down, sa4.down, sb0.down, sb1.down, sb2.down, sb3.down, ↓reduceIte, Nat.reduceEqDiff, Nat.reduceLT, Nat.reduceLeDiff, Nat.reduceAdd, Nat.reduceSub, Int.reduceToNat, Nat.reduceDiv, Int.reduceLT, Int.reduceLE, Int.reduceNeg, Int.reduceBEq, Int.reduceBNe, Int.reduceAdd, Int.reduceSub, Nat.reduceBEq, reduceCtorEq, Nat.reduceMul, TEP, tis, ens, nts, Try.results39]
      rw [if_pos (by simpa using hc')]
      exact Reif.dat rfl

/-- May it be asked? -/
def ask (l : List Cl) (vars : Int) (more : List Cl) : Int := if chk l vars ≠ 0 then chk l vars else if (more.all fun c => c.all (lit vars)) = true then 0 else 1

theorem chk_vars {l : List Cl} {vars : Int} (h : chk l vars = 0) : 0 ≤ vars ∧ vars ≤ 20000 ∧ l.length ≤ 100000 ∧ ∀ c ∈ l, ∀ a ∈ c, lit vars a = true := by
  unfold chk at h
  split at h
  · cases h
  · rename_i hh
    simp only [Bool.or_eq_true, decide_eq_true_eq] at hh
    split at h
    · rename_i h2
      refine ⟨by omega, by omega, by omega, ?_⟩
      simpa using h2
    · cases h

theorem ev_can (l : List Cl) (vars : Int) (more : List Cl) : Ev TE 23 [cls l, vi vars, cls more] (vi (ask l vars more)) := by
  refine Ev.of_awp Try.func23 rfl (by simp [nts]) (vc_ok mixed _ _ _ _ ?_)
  simp only [sa0.down, sa1.down, sa2.down, sa3.down, sa4.down, sb0.down, sb1.down, sb2.down, sb3.down, ↓reduceIte, Nat.reduceEqDiff, Nat.reduceLT, Nat.reduceLeDiff, Nat.reduceAdd, Nat.reduceSub, Int.reduceToNat, Nat.reduceDiv, Int.reduceLT, Int.reduceLE, Int.reduceNeg, Int.reduceBEq, Int.reduceBNe, Int.reduceAdd, Int.reduceSub, Nat.reduceBEq, reduceCtorEq, Nat.reduceMul, TEP, tis, ens, nts, Try.results23]
  refine ACalls.ev (ev_check l vars) rfl ?_
  simp only [sa0.down, sa1.down, sa2.down, sa3.down, sa4.down, sb0.down, sb1.down, sb2.down, sb3.down, ↓reduceIte, Nat.reduceEqDiff, Nat.reduceLT, Nat.reduceLeDiff, Nat.reduceAdd, Nat.reduceSub, Int.reduceToNat, Nat.reduceDiv, Int.reduceLT, Int.reduceLE, Int.reduceNeg, Int.reduceBEq, Int.reduceBNe, Int.reduceAdd, Int.reduceSub, Nat.reduceBEq, reduceCtorEq, Nat.reduceMul, TEP, tis, ens, nts, Try.results23]
  refine vcB.mk (fun hc => ?_) (fun hc => ?_)
  · simp only [sa0.down, sa1.down, sa2.down, sa3.down, sa4.down, sb0.down, sb1.down, sb2.down, sb3.down, ↓reduceIte, Nat.reduceEqDiff, Nat.reduceLT, Nat.reduceLeDiff, Nat.reduceAdd, Nat.reduceSub, Int.reduceToNat, Nat.reduceDiv, Int.reduceLT, Int.reduceLE, Int.reduceNeg, Int.reduceBEq, Int.reduceBNe, Int.reduceAdd, Int.reduceSub, Nat.reduceBEq, reduceCtorEq, Nat.reduceMul, TEP, tis, ens, nts, Try.results23]
    have hc : chk l vars ≠ 0 := by simpa using hc
    exact Reif.eq rfl (by unfold ask; rw [if_pos hc])
  · have hc : chk l vars = 0 := by simpa using hc
    obtain ⟨hv0, hv1, _⟩ := chk_vars hc
    have hr : ask l vars more = if (more.all fun c => c.all (lit vars)) = true then 0 else 1 := by unfold ask; rw [if_neg (by simp [hc])]
    rw [hr]
    simp only [sa0.down, sa1.down, sa2.down, sa3.down, sa4.down, sb0.down, sb1.down, sb2.down, sb3.down, ↓reduceIte, Nat.reduceEqDiff, Nat.reduceLT, Nat.reduceLeDiff, Nat.reduceAdd, Nat.reduceSub, Int.reduceToNat, Nat.reduceDiv, Int.reduceLT, Int.reduceLE, Int.reduceNeg, Int.reduceBEq, Int.reduceBNe, Int.reduceAdd, Int.reduceSub, Nat.reduceBEq, reduceCtorEq, Nat.reduceMul, TEP, tis, ens, nts, Try.results23]
    refine ACalls.lend (ev_ctC more 45 [.ip (.fn (.func 44) [] [.ip (vi vars)])] (fun c => !(c.all (lit vars))) rfl rfl fun x _ => ev_can2 x vars hv0 hv1)
      (Reifs.cons (Reif.dat rfl) (Reifs.cons (Reif.fn Reifs.nil (Reifs.cons (Reif.lp rfl (Reifs.cons (Reif.fn Reifs.nil (Reifs.cons (Reif.lp rfl (Reifs.dat rfl) rfl rfl (by simp [V.vc]) rfl) Reifs.nil)) Reifs.nil) rfl rfl (by simp [V.vc]) rfl) Reifs.nil)) Reifs.nil)) rfl ?_
    rw [any_not2]
    simp only [sa0.down, sa1.down, sa2.down, sa3.down, sa4.down, sb0.down, sb1.down, sb2.down, sb3.down, ↓reduceIte, Nat.reduceEqDiff, Nat.reduceLT, Nat.reduceLeDiff, Nat.reduceAdd, Nat.reduceSub, Int.reduceToNat, Nat.reduceDiv, Int.reduceLT, Int.reduceLE, Int.reduceNeg, Int.reduceBEq, Int.reduceBNe, Int.reduceAdd, Int.reduceSub, Nat.reduceBEq, reduceCtorEq, Nat.reduceMul, TEP, tis, ens, nts, Try.results23]
    refine vcB.mk (fun hc' => ?_) (fun hc' => ?_)
    · simp only [sa0.down, sa1.down, sa2.down, sa3.down, sa4.down, sb0.down, sb1.down, sb2.down, sb3.down, ↓reduceIte, Nat.reduceEqDiff, Nat.reduceLT, Nat.reduceLeDiff, Nat.reduceAdd, Nat.reduceSub, Int.reduceToNat, Nat.reduceDiv, Int.reduceLT, Int.reduceLE, Int.reduceNeg, Int.reduceBEq, Int.reduceBNe, Int.reduceAdd, Int.reduceSub, Nat.reduceBEq, reduceCtorEq, Nat.reduceMul, TEP, tis, ens, nts, Try.results23]
      rw [if_neg (by simpa using hc')]
      exact Reif.dat rfl
    · simp only [sa0.down, sa1.down, sa2.down, sa3.down, sa4.down, sb0.down, sb1.down, sb2.down, sb3.down, ↓reduceIte, Nat.reduceEqDiff, Nat.reduceLT, Nat.reduceLeDiff, Nat.reduceAdd, Nat.reduceSub, Int.reduceToNat, Nat.reduceDiv, Int.reduceLT, Int.reduceLE, Int.reduceNeg, Int.reduceBEq, Int.reduceBNe, Int.reduceAdd, Int.reduceSub, Nat.reduceBEq, reduceCtorEq, Nat.reduceMul, TEP, tis, ens, nts, Try.results23]
      rw [if_pos (by simpa using hc')]
      exact Reif.dat rfl

end Go.Proofs.Ytegnjoonhabicaa
