/- Functions of the program, part 03. -/
import Derived.Test.YtboolnpmlmgpkaaGreatDoorF02
import Derived.Test.YtboolnpmlmgpkaaGreatDoorA10
set_option linter.unusedVariables false
set_option maxRecDepth 20000
set_option linter.unusedSimpArgs false
set_option linter.unnecessarySimpa false
namespace Go.Proofs.YtboolnpmlmgpkaaGreatDoor
open Go Go.Proofs Go.Abs

/-! ### Witnesses -/
structure Wi where
  bad : Int
  st : Cl
  steps : List Cl
abbrev Wi.v (w : Wi) : V := .agg [vi w.bad, ints w.st, cls w.steps]

theorem ev_ixL (l : List Cl) (q : FuncId) (caps : List V) (p : Cl → Bool) (he : enters P q = true) (hd : V.dats caps = true) (hq : ∀ x ∈ l, Ev TE q (ints x :: caps) (.bool (p x))) : Ev TE 183 [cls l, .fn (.func q) [] caps] (vi (idx l p)) := by
  refine Ev.bnd fun hb => ?_
  have hlen := cls_len hb
  refine Ev.of_awp Tryz.func183 rfl (by simp [nts]) (vc_ok mixed _ _ _ _ ?_)
  simp only [sz.down, ↓reduceIte, Nat.reduceLT, Int.reduceNeg, reduceCtorEq, TEP, tis, nts, Tryz.results183]
  refine awp_loop (fun m f h => ∃ i, m + i = l.length ∧ f.t 0 = cls l ∧ f.t 1 = .fn (.func q) [] caps ∧ f.t 7 = .int .i64 (l.length : Int) ∧ f.t 8 = .int .i64 (i : Int) ∧ f.d = [] ∧ ∀ x ∈ l.take i, p x = false) l.length ⟨0, by simp, rfl, rfl, rfl, rfl, rfl, by simp⟩ ?_
  rintro m f h ⟨i, hm, h0, h1, h7, h8, hdd, hall⟩
  refine vc_ok mixed _ _ _ _ ?_
  simp only [sz.down, ↓reduceIte, Nat.reduceLT, Int.reduceNeg, TEP, h7, h8]
  refine vcB.mk (fun hc => ?_) (fun hc => ?_)
  · simp only [decide_eq_true_eq, Int.ofNat_lt] at hc
    simp only [sz.down, ↓reduceIte, Nat.reduceEqDiff, Nat.reduceLT, Int.reduceNeg, reduceCtorEq, TEP, tis, h0, h1, h8, getC hc, he]
    refine ⟨⟨by omega, by omega⟩, ACalls.ev (hq _ (List.getElem_mem _)) (by simp [V.dats, V.dat, hd]) ?_⟩
    simp only [sz.down, ↓reduceIte, Int.reduceNeg]
    refine vcB.mk (fun hc' => ?_) (fun hc' => ?_)
    · simp only [sz.down, ↓reduceIte, Nat.reduceEqDiff, Nat.reduceLT, Int.reduceNeg, TEP, hdd]
      rw [idx_some hc hall hc']
      exact Reif.dat rfl
    · simp only [sz.down, ↓reduceIte, Nat.reduceEqDiff, Nat.reduceLT, Int.reduceNeg, TEP, h8, wrap_succ (show i < maxLen by omega)]
      exact .inl ⟨m - 1, by omega, i + 1, by omega, h0, h1, h7, rfl, hdd, mem_take_succ hc hall hc'⟩
  · simp only [decide_eq_false_iff_not, Int.ofNat_lt] at hc
    simp only [sz.down, ↓reduceIte, Nat.reduceLT, Int.reduceNeg, TEP, hdd]
    rw [List.take_of_length_le (by omega)] at hall
    rw [idx_none hall]
    exact Reif.dat rfl

theorem ev_ctL (l : List Cl) (q : FuncId) (caps : List V) (p : Cl → Bool) (he : enters P q = true) (hd : V.dats caps = true) (hq : ∀ x ∈ l, Ev TE q (ints x :: caps) (.bool (p x))) : Ev TE 116 [cls l, .fn (.func q) [] caps] (.bool (l.any p)) := by
  refine Ev.of_awp Tryz.func116 rfl (by simp [nts]) (vc_ok mixed _ _ _ _ ?_)
  simp only [sz.down, ↓reduceIte, Nat.reduceEqDiff, Nat.reduceLT, reduceCtorEq, TEP, ens, nts, Tryz.results116]
  refine ACalls.ev (ev_ixL l q caps p he hd hq) (by simp [V.dats, V.dat, hd]) ?_
  simp only [sz.down, ↓reduceIte, Nat.reduceLT, TEP]
  exact Reif.eq rfl (by rw [idx_has])

theorem ev_wodd1 (a : Int) : Ev TE 182 [vi a] (.bool (oddB a)) := by
  refine Ev.of_awp Tryz.func182 rfl (by simp [nts]) (vc_ok mixed _ _ _ _ ?_)
  simp only [sz.down, ↓reduceIte, Nat.reduceEqDiff, Nat.reduceLT, reduceCtorEq, TEP, nts, Tryz.results182]
  exact Reif.dat rfl
theorem ev_wodd (l : Cl) : Ev TE 115 [ints l] (.bool (l.any oddB)) := by
  refine Ev.of_awp Tryz.func115 rfl (by simp [nts]) (vc_ok mixed _ _ _ _ ?_)
  simp only [sz.down, ↓reduceIte, Nat.reduceLT, reduceCtorEq, TEP, ens, nts, Tryz.results115]
  refine ACalls.ev (ev_ctN l 182 [] oddB rfl rfl fun x _ => ev_wodd1 x) rfl ?_
  simp only [sz.down, ↓reduceIte, Nat.reduceLT, TEP]
  exact Reif.dat rfl

/-- Is a row of values none? -/
def Mo.rowBad (m : Mo) (l : Cl) : Bool := ((l.length : Int) != (m.ins.length : Int)) || l.any oddB
theorem ev_wsized1 (m : Mo) (l : Cl) : Ev TE 179 [ints l, .ip m.v] (.bool (m.rowBad l)) := by
  unfold Mo.v Mo.rowBad
  refine Ev.of_awp Tryz.func179 rfl (by simp [nts]) (vc_ok mixed _ _ _ _ ?_)
  cases hc : (l.length : Int) != (m.ins.length : Int) with
  | true =>
    simp only [sz.down, ↓reduceIte, Nat.reduceEqDiff, Nat.reduceLT, Nat.reduceLeDiff, Nat.reduceAdd, reduceCtorEq, TEP, tis, nts, Tryz.results179, hc]
    refine ⟨.bool true, ?_⟩
    simp only [sz.down]
    exact Reif.dat rfl
  | false =>
    simp only [sz.down, ↓reduceIte, Nat.reduceEqDiff, Nat.reduceLT, Nat.reduceLeDiff, Nat.reduceAdd, reduceCtorEq, TEP, tis, ens, nts, Tryz.results179, hc]
    refine ACalls.ev (ev_wodd l) rfl ?_
    simp only [sz.down, ↓reduceIte, Nat.reduceEqDiff, Nat.reduceLT, TEP]
    exact Reif.dat rfl

def Wi.sized (m : Mo) (w : Wi) : Bool := decide (0 ≤ w.bad) && (decide (w.bad < (m.out.length : Int)) && (((w.st.length : Int) == (m.lat.length : Int)) && (!(w.st.any oddB) && (decide (1 ≤ (w.steps.length : Int)) && (decide ((w.steps.length : Int) ≤ 40) && !(w.steps.any m.rowBad))))))
theorem ev_wsized (m : Mo) (w : Wi) : Ev TE 106 [m.v, w.v] (.bool (Wi.sized m w)) := by
  unfold Mo.v Wi.v Wi.sized
  refine Ev.of_awp Tryz.func106 rfl (by simp [nts]) (vc_ok mixed _ _ _ _ ?_)
  cases h1 : decide (0 ≤ w.bad) with
  | false =>
    simp only [sz.down, ↓reduceIte, Nat.reduceEqDiff, Nat.reduceLT, Nat.reduceLeDiff, Nat.reduceAdd, TEP, tis, nts, Tryz.results106, h1]
    refine ⟨.bool true, ?_⟩
    simp only [sz.down, ↓reduceIte, Nat.reduceEqDiff, Nat.reduceLT, TEP]
    refine ⟨.bool true, ?_⟩
    simp only [sz.down]
    exact Reif.dat rfl
  | true =>
  cases h2 : decide (w.bad < (m.out.length : Int)) with
  | false =>
    simp only [sz.down, ↓reduceIte, Nat.reduceEqDiff, Nat.reduceLT, Nat.reduceLeDiff, Nat.reduceAdd, reduceCtorEq, TEP, tis, nts, Tryz.results106, h1, h2]
    refine ⟨.bool true, ?_⟩
    simp only [sz.down, ↓reduceIte, Nat.reduceEqDiff, Nat.reduceLT, TEP]
    refine ⟨.bool true, ?_⟩
    simp only [sz.down]
    exact Reif.dat rfl
  | true =>
  cases h3 : (w.st.length : Int) == (m.lat.length : Int) with
  | false =>
    simp only [sz.down, ↓reduceIte, Nat.reduceEqDiff, Nat.reduceLT, Nat.reduceLeDiff, Nat.reduceAdd, reduceCtorEq, TEP, tis, nts, Tryz.results106, h1, h2, h3]
    refine ⟨.bool true, ?_⟩
    simp only [sz.down, ↓reduceIte, Nat.reduceEqDiff, Nat.reduceLT, TEP]
    refine ⟨.bool true, ?_⟩
    simp only [sz.down]
    exact Reif.dat rfl
  | true =>
  simp only [sz.down, ↓reduceIte, Nat.reduceEqDiff, Nat.reduceLT, Nat.reduceLeDiff, Nat.reduceAdd, reduceCtorEq, TEP, tis, ens, nts, Tryz.results106, h1, h2, h3]
  refine ACalls.ev (ev_wodd w.st) rfl ?_
  cases h4 : w.st.any oddB with
  | true =>
    simp only [sz.down, ↓reduceIte, Nat.reduceEqDiff, Nat.reduceLT, Nat.reduceAdd, reduceCtorEq, TEP, tis]
    refine ⟨.bool true, ?_⟩
    simp only [sz.down]
    exact Reif.dat rfl
  | false =>
  cases h5 : decide (1 ≤ (w.steps.length : Int)) with
  | false =>
    simp only [sz.down, ↓reduceIte, Nat.reduceEqDiff, Nat.reduceLT, Nat.reduceAdd, reduceCtorEq, TEP, tis, h5]
    refine ⟨.bool true, ?_⟩
    simp only [sz.down]
    exact Reif.dat rfl
  | true =>
  cases h6 : decide ((w.steps.length : Int) ≤ 40) with
  | false =>
    simp only [sz.down, ↓reduceIte, Nat.reduceEqDiff, Nat.reduceLT, Nat.reduceAdd, reduceCtorEq, TEP, tis, h5, h6]
    refine ⟨.bool true, ?_⟩
    simp only [sz.down]
    exact Reif.dat rfl
  | true =>
  simp only [sz.down, ↓reduceIte, Nat.reduceEqDiff, Nat.reduceLT, Nat.reduceAdd, reduceCtorEq, TEP, tis, ens, h5, h6]
  have rf : Reifs TE [.cells [vi m.g.ins, ints m.g.next, ints m.g.init, prs m.g.ands, ints m.g.outs, strs m.ins, strs m.lat, strs m.out], .cells [vi w.bad, ints w.st, cls w.steps]] [cls w.steps, .fn (.func 179) [] [.lp 0 0]] [cls w.steps, .fn (.func 179) [] [.ip m.v]] :=
    Reifs.cons (Reif.dat rfl) (Reifs.cons (Reif.fn Reifs.nil (Reifs.cons (Reif.lp rfl (Reifs.dat rfl) rfl rfl (by simp [V.vc]) rfl) Reifs.nil)) Reifs.nil)
  refine ACalls.lend (ev_ctL w.steps 179 [.ip m.v] m.rowBad rfl rfl fun x _ => ev_wsized1 m x) rf rfl ?_
  simp only [sz.down, ↓reduceIte, Nat.reduceEqDiff, Nat.reduceLT, reduceCtorEq, TEP]
  exact Reif.dat rfl

theorem sized_parts {m : Mo} {w : Wi} (h : Wi.sized m w = true) : 0 ≤ w.bad ∧ w.bad < (m.out.length : Int) ∧ w.st.length = m.lat.length ∧ w.st.any oddB = false ∧ 1 ≤ w.steps.length ∧ w.steps.length ≤ 40 ∧ (∀ l ∈ w.steps, l.length = m.ins.length ∧ l.any oddB = false) := by
  unfold Wi.sized at h
  simp only [Bool.and_eq_true, decide_eq_true_eq, beq_iff_eq, Bool.not_eq_true', List.any_eq_false, Mo.rowBad, Bool.or_eq_false_iff, Bool.not_eq_true] at h
  obtain ⟨h1, h2, h3, h4, h5, h6, h7⟩ := h
  refine ⟨h1, h2, by omega, by simpa using h4, by omega, by omega, fun l hl => ?_⟩
  have := h7 l hl
  refine ⟨by have := this.1; simpa [Int.natCast_inj] using this, ?_⟩
  have := this.2
  simpa using this

/-- What a witness may not begin with. -/
def clash (n v : Int) : Bool := (n + v == 1) && decide (n < 2) && decide (v < 2)
def Wi.fits (m : Mo) (w : Wi) : Int := if m.chk ≠ 0 then m.chk else if Wi.sized m w = false then 1 else if (List.range w.st.length).any (fun i => clash (m.g.init.getD i 0) (w.st.getD i 0)) then 11 else 0

theorem Mo.chk_parts {m : Mo} (h : m.chk = 0) : m.g.chk = 0 ∧ m.lens = false ∧ m.names = false ∧ m.twos = false ∧ m.other m.out.length = false := by
  unfold Mo.chk at h
  split at h
  · rename_i h1; exact absurd h h1
  · rename_i h1
    split at h
    · cases h
    · split at h
      · cases h
      · split at h
        · cases h
        · split at h
          · cases h
          · refine ⟨by simpa using h1, ?_⟩
            simp_all

theorem Gr.row_parts {g : Gr} (h : g.oddR = false) : g.init.length = g.next.length ∧ (∀ a ∈ g.init, 0 ≤ a ∧ a ≤ 2) ∧ (∀ a ∈ g.next, 0 ≤ a ∧ a < g.all) ∧ (∀ a ∈ g.outs, 0 ≤ a ∧ a < g.all) := by
  simp only [Gr.oddR, Bool.or_eq_false_iff, bne_eq_false_iff_eq, List.any_eq_false, oddB, oddL, Bool.not_eq_true, decide_eq_false_iff_not] at h
  obtain ⟨⟨⟨h1, h2⟩, h3⟩, h4⟩ := h
  exact ⟨h1, fun a ha => by have := h2 a ha; omega, fun a ha => by have := h3 a ha; omega, fun a ha => by have := h4 a ha; omega⟩

theorem ev_wfits (m : Mo) (w : Wi) (hs : m.g.Sm) : Ev TE 45 [m.v, w.v] (vi (Wi.fits m w)) := by
  have hck := ev_lcheck m hs
  have hsz := ev_wsized m w
  unfold Mo.v at hck hsz ⊢
  unfold Wi.v at hsz ⊢
  refine Ev.of_awp Tryz.func45 rfl (by simp [nts]) (vc_ok mixed _ _ _ _ ?_)
  simp only [sz.down, ↓reduceIte, Nat.reduceEqDiff, Nat.reduceLT, Nat.reduceAdd, reduceCtorEq, TEP, tis, ens, nts, Tryz.results45]
  refine ACalls.ev hck rfl ?_
  simp only [sz.down, ↓reduceIte, Nat.reduceLT, TEP]
  refine vcB.mk (fun hc => ?_) (fun hc => ?_)
  · simp only [sz.down, ↓reduceIte, Nat.reduceEqDiff, Nat.reduceLT, TEP]
    exact Reif.eq rfl (by unfold Wi.fits; rw [if_pos (by simpa using hc)])
  · have hm : m.chk = 0 := by simpa using hc
    simp only [sz.down, ↓reduceIte, Nat.reduceEqDiff, Nat.reduceLT, Nat.reduceAdd, reduceCtorEq, TEP, tis, ens]
    refine ACalls.ev hsz rfl ?_
    cases h1 : Wi.sized m w with
    | false =>
      simp only [sz.down, ↓reduceIte, Nat.reduceLT, TEP]
      exact Reif.eq rfl (by unfold Wi.fits; rw [if_neg (by simp [hm]), if_pos h1])
    | true =>
      obtain ⟨s1, s2, s3, s4, s5, s6, s7⟩ := sized_parts h1
      obtain ⟨c1, c2, c3, c4, c5⟩ := Mo.chk_parts hm
      have go := Gr.ok_of c1
      obtain ⟨_, i0, i1, i2, i3, i4, i5⟩ := go
      obtain ⟨r1, r2, r3, r4⟩ := Gr.row_parts i4
      have hl : m.lat.length = m.g.next.length := by simp only [Mo.lens, Bool.or_eq_false_iff, bne_eq_false_iff_eq] at c2; omega
      have hil : m.g.init.length = w.st.length := by omega
      simp only [sz.down, ↓reduceIte, Nat.reduceEqDiff, Nat.reduceLT, Nat.reduceLeDiff, Nat.reduceAdd, TEP, tis]
      refine awp_loop (fun k f h => ∃ i, k + i = w.st.length ∧ f.t 2 = .lp 0 0 ∧ f.t 19 = ints w.st ∧ f.t 20 = vi w.st.length ∧ f.t 21 = vi i ∧ f.d = [] ∧ h = [O.cells [vi m.g.ins, ints m.g.next, ints m.g.init, prs m.g.ands, ints m.g.outs, strs m.ins, strs m.lat, strs m.out], O.cells [vi w.bad, ints w.st, cls w.steps]] ∧ (List.range i).any (fun i => clash (m.g.init.getD i 0) (w.st.getD i 0)) = false) w.st.length ⟨0, by simp, by simp only [sz.down, ↓reduceIte, Nat.reduceEqDiff], by simp only [sz.down, ↓reduceIte, Nat.reduceEqDiff], by simp only [sz.down, ↓reduceIte, Nat.reduceEqDiff], by (simp only [sz.down, ↓reduceIte]); rfl, by simp only [sz.down], rfl, rfl⟩ ?_
      rintro k f h ⟨i, hk, h2, h19, h20, h21, hd, rfl, hno⟩
      refine vc_ok mixed _ _ _ _ ?_
      simp only [sz.down, ↓reduceIte, Nat.reduceLT, TEP, h20, h21]
      refine vcB.mk (fun hlt => ?_) (fun hlt => ?_)
      · simp only [decide_eq_true_eq, Int.ofNat_lt] at hlt
        have hg1 : (m.g.init.map vi).getD i .any = vi m.g.init[i] := getI (by omega) _
        have hg2 : (w.st.map vi).getD i .any = vi w.st[i] := getI hlt _
        have ha := r2 _ (List.getElem_mem (show i < m.g.init.length by omega))
        have hb : 0 ≤ w.st[i] ∧ w.st[i] ≤ 2 := by
          have := List.any_eq_false.1 s4 _ (List.getElem_mem hlt)
          simp only [oddB, Bool.or_eq_true, decide_eq_true_eq, not_or] at this
          omega
        have hw : IntKind.i64.wrap (m.g.init[i] + w.st[i]) = m.g.init[i] + w.st[i] := wrapn (by omega) (by omega)
        have hge : m.g.init.getD i 0 = m.g.init[i] := getD_at (by omega)
        have hge2 : w.st.getD i 0 = w.st[i] := getD_at hlt
        have hext : ∀ b, clash m.g.init[i] w.st[i] = b → (List.range (i + 1)).any (fun i => clash (m.g.init.getD i 0) (w.st.getD i 0)) = b := fun b hb => by
          rw [List.range_succ, List.any_append, hno]
          simp only [List.any_cons, List.any_nil, Bool.or_false, Bool.false_or, hge, hge2, hb]
        have hfin : clash m.g.init[i] w.st[i] = true → Wi.fits m w = 11 := fun hb => by
          unfold Wi.fits
          rw [if_neg (by simp [hm]), if_neg (by simp [h1]), if_pos]
          have := hext _ hb
          rw [List.any_eq_true] at this ⊢
          obtain ⟨x, hx, hy⟩ := this
          exact ⟨x, List.mem_range.2 (by have := List.mem_range.1 hx; omega), hy⟩
        simp only [sz.down, ↓reduceIte, Nat.reduceEqDiff, Nat.reduceLT, Nat.reduceLeDiff, Nat.reduceAdd, TEP, tis, h2, h19, h21, hg1, hg2, hw]
        refine ⟨⟨by omega, by omega⟩, ⟨by omega, by omega⟩, vcB.mk (fun hb' => ?_) (fun hb' => ?_)⟩
        · simp only [sz.down, ↓reduceIte, Nat.reduceLT, TEP, hd]
          exact Reif.eq rfl (by rw [hfin hb'])
        · simp only [sz.down, ↓reduceIte, Nat.reduceEqDiff, Nat.reduceLT, TEP, h21, wrap_succ (show i < maxLen by have hM : maxLen = 9223372036854775807 := rfl; omega)]
          exact .inl ⟨k - 1, by omega, i + 1, by omega, h2, h19, h20, rfl, hd, rfl, hext _ hb'⟩
      · simp only [decide_eq_false_iff_not, Int.ofNat_lt] at hlt
        simp only [sz.down, ↓reduceIte, Nat.reduceLT, TEP, hd]
        have hi : i = w.st.length := by omega
        refine Reif.eq rfl ?_
        unfold Wi.fits
        rw [if_neg (by simp [hm]), if_neg (by simp [h1]), ← hi, hno]
        rfl

end Go.Proofs.YtboolnpmlmgpkaaGreatDoor

set_option linter.unusedVariables false
set_option maxRecDepth 20000
set_option linter.unusedSimpArgs false
set_option linter.unnecessarySimpa false
namespace Go.Proofs.YtboolnpmlmgpkaaGreatDoor
open Go Go.Proofs Go.Abs

/-! ### Values -/
/-- A literal's value. -/
def lv (v : List Bool) (a : Int) : Bool := v.getD (a / 2).toNat false != (a % 2 == 1)
theorem and1 {a : Int} (h0 : 0 ≤ a) (h1 : a ≤ 1000000000) : IntKind.i64.wrap ((BitVec.ofInt IntKind.i64.bits a &&& BitVec.ofInt IntKind.i64.bits 1).toNat : Int) = a % 2 := by
  obtain ⟨n, rfl⟩ : ∃ n : Nat, a = n := ⟨a.toNat, by omega⟩
  have e1 : (BitVec.ofInt IntKind.i64.bits (n : Int) &&& BitVec.ofInt IntKind.i64.bits 1).toNat = n % 2 := by
    show (BitVec.ofInt 64 (n : Int) &&& BitVec.ofInt 64 1).toNat = n % 2
    rw [BitVec.toNat_and]
    have : (BitVec.ofInt 64 (n : Int)).toNat = n := by simp; omega
    rw [this]
    show n &&& 1 = n % 2
    exact Nat.and_one_is_mod n
  rw [e1, wrapn (by omega) (by omega)]
  omega
theorem shr1 (a : Int) : a.fdiv (2 ^ (min 1 IntKind.i64.bits)) = a / 2 := by
  show a.fdiv 2 = a / 2
  rw [Int.fdiv_eq_ediv_of_nonneg _ (by decide)]

theorem ev_avalue (v : List Bool) (a : Int) (h0 : 0 ≤ a) (h1 : a / 2 < v.length) (h2 : a ≤ 1000000000) : Ev TE 129 [bools v, vi a] (.bool (lv v a)) := by
  obtain ⟨k, hk⟩ : ∃ k : Nat, a / 2 = k := ⟨(a / 2).toNat, by omega⟩
  have hkl : k < v.length := by omega
  have hg : (v.map V.bool).getD k .any = .bool v[k] := getB hkl _
  refine Ev.of_awp Tryz.func129 rfl (by simp [nts]) (vc_ok mixed _ _ _ _ ?_)
  simp only [sz.down, ↓reduceIte, Nat.reduceEqDiff, Nat.reduceLT, Int.reduceToNat, Int.reduceLE, reduceCtorEq, TEP, tis, nts, Tryz.results129, shr1, and1 h0 h2, hk, hg]
  refine ⟨⟨by omega, by omega⟩, ?_⟩
  refine Reif.eq rfl ?_
  unfold lv
  rw [hk, Int.toNat_natCast, getD_at hkl]
  rfl

/-! ### The values of all numbers -/
def valsN (g : Gr) (st ins : List Bool) (n : Nat) : List Bool := (g.ands.take n).foldl (fun v p => v ++ [lv v p.1 && lv v p.2]) ([false] ++ ins ++ st)
def Gr.vals (g : Gr) (st ins : List Bool) : List Bool := valsN g st ins g.ands.length
def Gr.valE (g : Gr) (st ins : List Bool) : Int := if g.chk ≠ 0 then g.chk else if ((st.length : Int) != (g.next.length : Int)) || ((ins.length : Int) != g.ins) then 11 else 0
def Gr.valV (g : Gr) (st ins : List Bool) : List Bool := if g.valE st ins = 0 then g.vals st ins else []
theorem valsN_succ {g : Gr} {st ins : List Bool} {i : Nat} (h : i < g.ands.length) : valsN g st ins (i + 1) = valsN g st ins i ++ [lv (valsN g st ins i) g.ands[i].1 && lv (valsN g st ins i) g.ands[i].2] := by
  unfold valsN
  rw [List.take_add_one, List.foldl_append]
  simp [h]
theorem valsN_len {g : Gr} {st ins : List Bool} : ∀ {i : Nat}, i ≤ g.ands.length → (valsN g st ins i).length = 1 + ins.length + st.length + i
  | 0, _ => by simp [valsN]; omega
  | i + 1, h => by
    rw [valsN_succ (by omega), List.length_append, valsN_len (by omega)]
    simp; omega
theorem oddAs_at {g : Gr} (h : g.oddAs g.ands.length = false) {i : Nat} (hi : i < g.ands.length) : 0 ≤ g.ands[i].1 ∧ 0 ≤ g.ands[i].2 ∧ g.ands[i].1 < 2 * (g.first + i) ∧ g.ands[i].2 < 2 * (g.first + i) := by
  unfold Gr.oddAs at h
  rw [List.any_eq_false] at h
  have := h i (List.mem_range.2 hi)
  rw [getD_at hi] at this
  simp only [oddA, Bool.or_eq_true, decide_eq_true_eq, not_or] at this
  omega

set_option maxHeartbeats 4000000 in
theorem ev_avalues (g : Gr) (st ins : List Bool) (hs : g.Sm) : Ev TE 127 [g.v, bools st, bools ins] (.tup [bools (g.valV st ins), vi (g.valE st ins)]) := by
  have hgc := ev_grCheck g hs
  have dg : V.dats [.agg [vi g.ins, ints g.next, ints g.init, prs g.ands, ints g.outs]] = true := by simp only [V.dats, V.dat, Bool.and_self]
  unfold Gr.v at hgc ⊢
  refine Ev.bnd fun hb => ?_
  have hl1 : st.length ≤ maxLen := bools_len (r := [bools ins]) (by simp only [V.bnds] at hb ⊢; exact hb.2)
  refine Ev.of_awp Tryz.func127 rfl (by simp [nts]) (vc_ok mixed _ _ _ _ ?_)
  simp only [sz.down, ↓reduceIte, Nat.reduceEqDiff, Nat.reduceLT, Nat.reduceAdd, reduceCtorEq, TEP, tis, ens, nts, Tryz.results127]
  refine ACalls.ev hgc dg ?_
  simp only [sz.down, ↓reduceIte, Nat.reduceLT, TEP]
  refine vcB.mk (fun hc => ?_) (fun hc => ?_)
  · simp only [sz.down, ↓reduceIte, Nat.reduceEqDiff, Nat.reduceLT, TEP]
    have h1 : g.valE st ins = g.chk := by unfold Gr.valE; rw [if_pos (by simpa using hc)]
    have h2 : g.valV st ins = [] := by unfold Gr.valV; rw [if_neg (by rw [h1]; simpa using hc)]
    rw [h1, h2]
    exact Reif.tup (Reifs.cons Reif.nils (Reifs.dat rfl))
  · have hg : g.chk = 0 := by simpa using hc
    have go := Gr.ok_of hg
    obtain ⟨_, i0, i1, i2, i3, i4, i5⟩ := go
    have fin : ((st.length : Int) != (g.next.length : Int)) || ((ins.length : Int) != g.ins) → Reif TE [.cells [vi g.ins, ints g.next, ints g.init, prs g.ands, ints g.outs]] (.tup [.nils, vi 11]) (.tup [bools (g.valV st ins), vi (g.valE st ins)]) := fun h => by
      have h1 : g.valE st ins = 11 := by unfold Gr.valE; rw [if_neg (by simp [hg]), if_pos h]
      have h2 : g.valV st ins = [] := by unfold Gr.valV; rw [if_neg (by rw [h1]; decide)]
      rw [h1, h2]
      exact Reif.tup (Reifs.cons Reif.nils (Reifs.dat rfl))
    cases e1 : (st.length : Int) != (g.next.length : Int) with
    | true =>
      simp only [sz.down, ↓reduceIte, Nat.reduceEqDiff, Nat.reduceLT, Nat.reduceLeDiff, Nat.reduceAdd, reduceCtorEq, TEP, tis, e1]
      exact fin (by simp [e1])
    | false =>
      cases e2 : (ins.length : Int) != g.ins with
      | true =>
        simp only [sz.down, ↓reduceIte, Nat.reduceEqDiff, Nat.reduceLT, Nat.reduceLeDiff, Nat.reduceAdd, TEP, tis, e1, e2]
        exact fin (by simp [e1, e2])
      | false =>
        simp only [bne_eq_false_iff_eq] at e1 e2
        have hcat : EvF TE 188 [.is true 1 [.is true 1 [V.bool false], bools ins, bools st]] 1 ([[false], ins, st].flatten).length (([[false], ins, st].flatten).map V.bool) :=
          (evF_concatSB [[false], ins, st] (by simp; omega) (by simp)).les (VLes.cons (VLe.is rfl (fun i v v' h1 h2 => by
            rcases i with _ | _ | _ | i
            · cases h1; cases h2; exact VLe.inexact
            · cases h1; cases h2; exact VLe.refl _
            · cases h1; cases h2; exact VLe.refl _
            · cases h1)) (VLes.refl _))
        have hfl : [[false], ins, st].flatten = valsN g st ins 0 := by simp [valsN]
        rw [hfl] at hcat
        simp only [sz.down, ↓reduceIte, Nat.reduceEqDiff, Nat.reduceLT, Nat.reduceLeDiff, Nat.reduceAdd, reduceCtorEq, Nat.reduceMul, TEP, tis, ens, e1, e2, bne_self_eq_false]
        refine ⟨⟨rfl, by decide⟩, ⟨rfl, by decide⟩, ACalls.evF hcat rfl (dats_b _) ?_⟩
        simp only [sz.down, ↓reduceIte, Nat.reduceEqDiff, Nat.reduceLT, Nat.reduceLeDiff, Nat.reduceAdd, TEP, tis]
        refine awp_loop (fun m f h => ∃ i G, m + i = g.ands.length ∧ f.t 3 = .lp 0 0 ∧ f.t 36 = prs g.ands ∧ f.t 37 = vi g.ands.length ∧ f.t 38 = vi i ∧ f.t 9 = .ls 1 1 0 (valsN g st ins i).length (valsN g st ins i).length ∧ f.d = [] ∧ h = [.cells [vi g.ins, ints g.next, ints g.init, prs g.ands, ints g.outs], .cells ((valsN g st ins i).map V.bool)] ++ G) g.ands.length ⟨0, [], by simp, by simp only [sz.down, ↓reduceIte, Nat.reduceEqDiff], by simp only [sz.down, ↓reduceIte, Nat.reduceEqDiff], by simp only [sz.down, ↓reduceIte, Nat.reduceEqDiff], by (simp only [sz.down, ↓reduceIte]); rfl, by simp only [sz.down, ↓reduceIte, Nat.reduceEqDiff], by simp only [sz.down], by simp⟩ ?_
        rintro m f h ⟨i, G, hm, h3, h36, h37, h38, h9, hd, rfl⟩
        refine vc_ok mixed _ _ _ _ ?_
        simp only [sz.down, ↓reduceIte, Nat.reduceLT, TEP, h37, h38]
        refine vcB.mk (fun hlt => ?_) (fun hlt => ?_)
        · simp only [decide_eq_true_eq, Int.ofNat_lt] at hlt
          have hgp : (g.ands.map prV).getD i .any = prV g.ands[i] := getD_map hlt _
          have hM : maxLen = 9223372036854775807 := rfl
          have hgE : ∀ x : O, (G ++ [x])[G.length]? = some x := fun x => by simp
          have hgS : ∀ x y : O, (G ++ [x]).set G.length y = G ++ [y] := fun x y => by simp
          have hln := valsN_len (g := g) (st := st) (ins := ins) (i := i) (by omega)
          obtain ⟨o1, o2, o3, o4⟩ := oddAs_at i5 hlt
          have wf : g.first = 1 + g.ins + g.next.length := rfl
          simp only [sz.down, ↓reduceIte, Nat.reduceEqDiff, Nat.reduceLT, Nat.reduceLeDiff, Nat.reduceAdd, Int.reduceLE, Nat.reduceMul, TEP, tis, ens, h36, h38, h9, hgp, hgE, hgS]
          have key : ∀ b, (lv (valsN g st ins i) g.ands[i].1 && lv (valsN g st ins i) g.ands[i].2) = b → valsN g st ins (i + 1) = valsN g st ins i ++ [b] := fun b hb => by rw [valsN_succ hlt, hb]
          have rv : ∀ G' : H, ∀ b : Int, Reifs TE (O.cells [vi g.ins, ints g.next, ints g.init, prs g.ands, ints g.outs] :: O.cells (List.map V.bool (valsN g st ins i)) :: G') [.ls 1 1 0 (valsN g st ins i).length (valsN g st ins i).length, vi b] [bools (valsN g st ins i), vi b] := fun G' b => Reifs.cons (reif_bools rfl rfl) (Reifs.cons (Reif.dat rfl) Reifs.nil)
          refine ⟨⟨by omega, by omega⟩, by decide, ACalls.lend (ev_avalue (valsN g st ins i) g.ands[i].1 o1 (by omega) (by omega)) (rv _ _) rfl ?_⟩
          cases hv1 : lv (valsN g st ins i) g.ands[i].1 with
          | true =>
            simp only [sz.down, ↓reduceIte, Nat.reduceEqDiff, Nat.reduceLT, Nat.reduceAdd, Int.reduceToNat, Int.reduceLE, Nat.reduceMul, TEP, tis, ens, h9, hgE]
            refine ⟨by decide, ACalls.lend (ev_avalue (valsN g st ins i) g.ands[i].2 o2 (by omega) (by omega)) (rv _ _) rfl ?_⟩
            simp only [sz.down, ↓reduceIte, Nat.reduceEqDiff, Nat.reduceLT, reduceCtorEq, Nat.reduceMul, TEP, tis, h38, hd, drops_b, wrap_succ (show i < maxLen by omega)]
            refine ⟨⟨rfl, by decide⟩, ⟨by omega, by omega, by omega⟩, .inl ⟨m - 1, by omega, i + 1, List.map (O.drop fun x => x == 1) G ++ [O.cells [vi g.ands[i].1, vi g.ands[i].2]], by omega, by simp only [sz.down, ↓reduceIte, Nat.reduceEqDiff, Nat.reduceBEq, h3], by simp only [sz.down, ↓reduceIte, Nat.reduceEqDiff, h36], by simp only [sz.down, ↓reduceIte, Nat.reduceEqDiff, h37], rfl, ?_, by simp only [sz.down, hd], ?_⟩⟩
            · rw [key _ rfl, hv1, List.length_append]; rfl
            · rw [key _ rfl, hv1, List.map_append]; rfl
          | false =>
            simp only [sz.down, ↓reduceIte, Nat.reduceEqDiff, Nat.reduceLT, Nat.reduceAdd, Int.reduceToNat, Int.reduceLE, reduceCtorEq, Nat.reduceMul, TEP, tis, h38, h9, hd, hgE, drops_b, wrap_succ (show i < maxLen by omega)]
            refine ⟨.bool false, ?_⟩
            simp only [sz.down, ↓reduceIte]
            refine ⟨⟨rfl, by decide⟩, ⟨by omega, by omega, by omega⟩, .inl ⟨m - 1, by omega, i + 1, List.map (O.drop fun x => x == 1) G ++ [O.cells [vi g.ands[i].1, vi g.ands[i].2]], by omega, by simp only [sz.down, ↓reduceIte, Nat.reduceEqDiff, Nat.reduceBEq, h3], by simp only [sz.down, ↓reduceIte, Nat.reduceEqDiff, h36], by simp only [sz.down, ↓reduceIte, Nat.reduceEqDiff, h37], rfl, ?_, by simp only [sz.down, hd], ?_⟩⟩
            · rw [key _ rfl, hv1, List.length_append]; rfl
            · rw [key _ rfl, hv1, List.map_append]; rfl
        · simp only [decide_eq_false_iff_not, Int.ofNat_lt] at hlt
          have hi : i = g.ands.length := by omega
          simp only [sz.down, ↓reduceIte, Nat.reduceEqDiff, Nat.reduceLT, TEP, h9, hd]
          have hE : g.valE st ins = 0 := by unfold Gr.valE; rw [if_neg (by simp [hg]), if_neg (by simp; omega)]
          have hV : g.valV st ins = valsN g st ins i := by unfold Gr.valV Gr.vals; rw [if_pos hE, hi]
          rw [hE, hV]
          exact Reif.tup (Reifs.cons (reif_bools rfl rfl) (Reifs.dat rfl))

theorem ev_astep1 (v : List Bool) (l : Cl) (hll : l.length ≤ 1000000) (hl : ∀ a ∈ l, 0 ≤ a ∧ a / 2 < v.length ∧ a ≤ 1000000000) : Ev TE 128 [ints l, .ip (bools v)] (bools (l.map (lv v))) := by
  refine Ev.bnd fun hb => ?_
  have hlen := ints_len hb
  have hM : maxLen = 9223372036854775807 := rfl
  refine Ev.of_awp Tryz.func128 rfl (by simp [nts]) (vc_ok mixed _ _ _ _ ?_)
  simp only [sz.down, ↓reduceIte, Nat.reduceLT, reduceCtorEq, TEP, tis, nts, Tryz.results128]
  refine awp_loop (fun m f h => ∃ i, m + i = l.length ∧ f.t 1 = .ip (bools v) ∧ f.t 7 = ints l ∧ f.t 8 = vi l.length ∧ f.t 9 = vi i ∧ f.d = [] ∧ ((i = 0 ∧ f.t 4 = .nils ∧ h = []) ∨ (f.t 4 = .ls 0 1 0 i i ∧ h = [.cells (((l.take i).map (lv v)).map V.bool)]))) l.length ⟨0, by simp, rfl, rfl, rfl, rfl, rfl, .inl ⟨rfl, rfl, rfl⟩⟩ ?_
  rintro m f h ⟨i, hm, h1, h7, h8, h9, hd, hh⟩
  refine vc_ok mixed _ _ _ _ ?_
  simp only [sz.down, ↓reduceIte, Nat.reduceLT, TEP, h8, h9]
  refine vcB.mk (fun hlt => ?_) (fun hlt => ?_)
  · simp only [decide_eq_true_eq, Int.ofNat_lt] at hlt
    obtain ⟨o1, o2, o3⟩ := hl _ (List.getElem_mem hlt)
    have hsucc : (l.take (i + 1)).map (lv v) = (l.take i).map (lv v) ++ [lv v l[i]] := by rw [List.take_add_one, List.map_append]; simp [hlt]
    have hg : (l.map vi).getD i .any = vi l[i] := getI hlt _
    simp only [sz.down, ↓reduceIte, Nat.reduceEqDiff, Nat.reduceLT, TEP, tis, ens, h1, h7, h9, hg]
    refine ⟨⟨by omega, by omega⟩, ACalls.ev (ev_avalue v l[i] o1 o2 o3) rfl ?_⟩
    have hw := wrap_succ (show i < maxLen by omega)
    rcases hh with ⟨rfl, h4, rfl⟩ | ⟨h4, rfl⟩
    · simp only [sz.down, ↓reduceIte, Nat.reduceEqDiff, Nat.reduceLT, Nat.reduceLeDiff, reduceCtorEq, Nat.reduceMul, TEP, tis, h4, h9, hw]
      exact ⟨⟨rfl, by decide⟩, by omega, .inl ⟨m - 1, by omega, 0 + 1, by omega, by simp only [sz.down, ↓reduceIte, Nat.reduceEqDiff, h1], by simp only [sz.down, ↓reduceIte, Nat.reduceEqDiff, h7], by simp only [sz.down, ↓reduceIte, Nat.reduceEqDiff, h8], rfl, by simp only [sz.down, hd], .inr ⟨rfl, by rw [hsucc]; rfl⟩⟩⟩
    · simp only [sz.down, ↓reduceIte, Nat.reduceEqDiff, Nat.reduceLT, reduceCtorEq, Nat.reduceMul, TEP, tis, h4, h9, hd, drops_b, hw]
      exact ⟨⟨rfl, by decide⟩, ⟨by rw [List.length_take]; omega, by omega, by omega⟩, .inl ⟨m - 1, by omega, i + 1, by omega, by simp only [sz.down, ↓reduceIte, Nat.reduceEqDiff, h1], by simp only [sz.down, ↓reduceIte, Nat.reduceEqDiff, h7], by simp only [sz.down, ↓reduceIte, Nat.reduceEqDiff, h8], rfl, by simp only [sz.down, hd], .inr ⟨rfl, by rw [hsucc, List.map_append]; rfl⟩⟩⟩
  · simp only [decide_eq_false_iff_not, Int.ofNat_lt] at hlt
    have hi : i = l.length := by omega
    subst hi
    simp only [sz.down, ↓reduceIte, Nat.reduceEqDiff, Nat.reduceLT, TEP, hd]
    rcases hh with ⟨h0, h4, rfl⟩ | ⟨h4, rfl⟩
    · simp only [sz.down, h4]
      rw [List.length_eq_zero_iff.1 h0]
      exact Reif.nils
    · simp only [sz.down, h4]
      refine reif_bools (by simp) (by simp)


/-! ### A step -/
def Gr.out (g : Gr) (st ins : List Bool) : List Bool := if g.valE st ins = 0 then g.outs.map (lv (g.vals st ins)) else []
def Gr.nxt (g : Gr) (st ins : List Bool) : List Bool := if g.valE st ins = 0 then g.next.map (lv (g.vals st ins)) else []
theorem lits_in {g : Gr} {st ins : List Bool} (hE : g.valE st ins = 0) : (∀ a ∈ g.outs, 0 ≤ a ∧ a / 2 < (g.vals st ins).length ∧ a ≤ 1000000000) ∧ (∀ a ∈ g.next, 0 ≤ a ∧ a / 2 < (g.vals st ins).length ∧ a ≤ 1000000000) ∧ g.outs.length ≤ 4000 ∧ g.next.length ≤ 4000 ∧ g.chk = 0 ∧ st.length = g.next.length ∧ (ins.length : Int) = g.ins ∧ (g.vals st ins).length = 1 + ins.length + st.length + g.ands.length := by
  unfold Gr.valE at hE
  split at hE
  · rename_i h1; exact absurd hE h1
  · rename_i h1
    have hg : g.chk = 0 := by simpa using h1
    split at hE
    · cases hE
    · rename_i h2
      simp only [Bool.or_eq_true, bne_iff_ne, ne_eq, not_or, Decidable.not_not] at h2
      obtain ⟨_, i0, i1, i2, i3, i4, i5⟩ := Gr.ok_of hg
      obtain ⟨r1, r2, r3, r4⟩ := Gr.row_parts i4
      have hln := valsN_len (g := g) (st := st) (ins := ins) (Nat.le_refl g.ands.length)
      have wf : g.all = 2 * (1 + g.ins + g.next.length + g.ands.length) := rfl
      have hln : (g.vals st ins).length = 1 + ins.length + st.length + g.ands.length := hln
      refine ⟨fun a ha => ?_, fun a ha => ?_, by omega, by omega, hg, by omega, h2.2, hln⟩
      · have := r4 a ha; omega
      · have := r3 a ha; omega

theorem ev_astep (g : Gr) (st ins : List Bool) (hs : g.Sm) : Ev TE 52 [g.v, bools st, bools ins] (.tup [bools (g.out st ins), bools (g.nxt st ins), vi (g.valE st ins)]) := by
  have hgv := ev_avalues g st ins hs
  unfold Gr.v at hgv ⊢
  have dg : V.dats [.agg [vi g.ins, ints g.next, ints g.init, prs g.ands, ints g.outs], bools st, bools ins] = true := by simp only [V.dats, V.dat, Bool.and_self]
  refine Ev.of_awp Tryz.func52 rfl (by simp [nts]) ?_
  
  refine awp_seq (vc_ok mixed _ _ _ _ ?_)
  simp only [sz.down, Nat.reduceLT, TEP, nts, Tryz.results52]
  refine awp_seq (vc_ok mixed _ _ _ _ ?_)
  simp only [sz.down, ↓reduceIte, Nat.reduceEqDiff, Nat.reduceLT, Nat.reduceAdd, reduceCtorEq, TEP, tis, ens]
  refine ACalls.ev hgv dg ?_
  simp only [sz.down, ↓reduceIte, Nat.reduceEqDiff, Nat.reduceLT, Nat.reduceAdd, TEP, tis]
  refine awp_seq (vc_ok mixed _ _ _ _ ?_)
  simp only [sz.down, ↓reduceIte, Nat.reduceLT, TEP]
  refine vcB.mk (fun hc => ?_) (fun hc => ?_)
  · have hc : g.valE st ins ≠ 0 := by simpa using hc
    simp only [sz.down, ↓reduceIte, Nat.reduceEqDiff, Nat.reduceLT, TEP]
    unfold Gr.out Gr.nxt
    rw [if_neg hc, if_neg hc]
    exact Reif.tup (Reifs.cons Reif.nils (Reifs.cons Reif.nils (Reifs.dat rfl)))
  · have hc : g.valE st ins = 0 := by simpa using hc
    have hV : g.valV st ins = g.vals st ins := by unfold Gr.valV; rw [if_pos hc]
    obtain ⟨l1, l2, l3, l4, l5, _⟩ := lits_in hc
    have c1 := ev_astep1 (g.vals st ins) g.outs (by omega) l1
    have c2 := ev_astep1 (g.vals st ins) g.next (by omega) l2
    simp only [sz.down, hV]
    refine awp_seq (vc_ok mixed _ _ _ _ ?_)
    simp only [sz.down, ↓reduceIte, Nat.reduceEqDiff, Nat.reduceLT, TEP]
    refine awp_popAt (h0 := [.cells [vi g.ins, ints g.next, ints g.init, prs g.ands, ints g.outs]]) (o := .cells [bools (g.vals st ins)]) 11 (.fn (.func 128) [] [.ip (bools (g.vals st ins))]) (by simp only [sz.down]) (by simp only [sz.down, ↓reduceIte, from_]) ?_ ?_
    · simp only [sz.down, ↓reduceIte]
      exact Reif.fn Reifs.nil (Reifs.cons (Reif.lp (h := keepP (from_ 1) 0 _) rfl (Reifs.dat rfl) rfl rfl (by simp [V.vc]) rfl) Reifs.nil)
    · refine vc_ok mixed _ _ _ _ ?_
      simp only [sz.down, ↓reduceIte, Nat.reduceEqDiff, Nat.reduceLT, Nat.reduceLeDiff, Nat.reduceAdd, TEP, tis, from_]
      refine ⟨by decide +kernel, vcEv.mk c1 rfl rfl ?_⟩
      simp only [sz.down, ↓reduceIte, Nat.reduceEqDiff, Nat.reduceLT, Nat.reduceLeDiff, Nat.reduceAdd, TEP, tis, from_]
      refine vcEv.mk c2 rfl rfl ?_
      simp only [sz.down, ↓reduceIte, Nat.reduceEqDiff, Nat.reduceLT, TEP]
      have eo : g.out st ins = g.outs.map (lv (g.vals st ins)) := by unfold Gr.out; rw [if_pos hc]
      have en : g.nxt st ins = g.next.map (lv (g.vals st ins)) := by unfold Gr.nxt; rw [if_pos hc]
      rw [eo, en, hc]
      exact Reif.dat (by simp only [V.dat, V.dats, Bool.and_self])

end Go.Proofs.YtboolnpmlmgpkaaGreatDoor

set_option linter.unusedVariables false
set_option maxRecDepth 20000
set_option linter.unusedSimpArgs false
set_option linter.unnecessarySimpa false
namespace Go.Proofs.YtboolnpmlmgpkaaGreatDoor
open Go Go.Proofs Go.Abs

abbrev rwB (l : List (List Bool)) : V := .is false 1 (l.map fun c => bools c)
/-- What a latch begins with. -/
def stv (n v : Int) : Bool := v == 1 || (v == 2 && n == 1)
def stB (m : Mo) (w : Wi) (n : Nat) : List Bool := (List.range n).map fun i => stv (m.g.init.getD i 0) (w.st.getD i 0)
def Wi.state (m : Mo) (w : Wi) : List Bool := stB m w w.st.length
def insB (l : Cl) : List Bool := l.map (· == 1)
def Wi.seq (w : Wi) : List (List Bool) := w.steps.map insB
theorem stB_succ {m : Mo} {w : Wi} {n : Nat} : stB m w (n + 1) = stB m w n ++ [stv (m.g.init.getD n 0) (w.st.getD n 0)] := by unfold stB; rw [List.range_succ, List.map_append]; rfl
theorem stB_len {m : Mo} {w : Wi} {n : Nat} : (stB m w n).length = n := by simp [stB]

/-- What a witness that fits brings. -/
structure Fit (m : Mo) (w : Wi) : Prop where
  chk : m.chk = 0
  g : m.g.chk = 0
  bad0 : 0 ≤ w.bad
  bad1 : w.bad < (m.out.length : Int)
  st : w.st.length = m.lat.length
  lat : m.lat.length = m.g.next.length
  ini : m.g.init.length = m.g.next.length
  ins : (m.ins.length : Int) = m.g.ins
  out : m.out.length = m.g.outs.length
  ins1 : m.ins.length ≤ 4000
  st1 : w.st.length ≤ 4000
  out1 : m.out.length ≤ 4000
  stv : ∀ a ∈ w.st, 0 ≤ a ∧ a ≤ 2
  iniv : ∀ a ∈ m.g.init, 0 ≤ a ∧ a ≤ 2
  s1 : 1 ≤ w.steps.length
  s2 : w.steps.length ≤ 40
  row : ∀ l ∈ w.steps, l.length = m.ins.length ∧ ∀ a ∈ l, 0 ≤ a ∧ a ≤ 2
  ok : (List.range w.st.length).any (fun i => clash (m.g.init.getD i 0) (w.st.getD i 0)) = false
theorem odd_no {l : Cl} (h : l.any oddB = false) : ∀ a ∈ l, 0 ≤ a ∧ a ≤ 2 := fun a ha => by
  have := List.any_eq_false.1 h a ha
  simp only [oddB, Bool.or_eq_true, decide_eq_true_eq, not_or] at this
  omega
theorem fit_of {m : Mo} {w : Wi} (h : Wi.fits m w = 0) : Fit m w := by
  unfold Wi.fits at h
  split at h
  · rename_i h1; exact absurd h h1
  · rename_i h1
    have hm : m.chk = 0 := by simpa using h1
    split at h
    · cases h
    · rename_i h2
      split at h
      · cases h
      · rename_i h3
        obtain ⟨s1, s2, s3, s4, s5, s6, s7⟩ := sized_parts (by simpa using h2 : Wi.sized m w = true)
        obtain ⟨c1, c2, c3, c4, c5⟩ := Mo.chk_parts hm
        obtain ⟨_, i0, i1, i2, i3, i4, i5⟩ := Gr.ok_of c1
        obtain ⟨r1, r2, r3, r4⟩ := Gr.row_parts i4
        simp only [Mo.lens, Bool.or_eq_false_iff, bne_eq_false_iff_eq] at c2
        obtain ⟨⟨l1, l2⟩, l3⟩ := c2
        exact { chk := hm, g := c1, bad0 := s1, bad1 := s2, st := s3, lat := by omega, ini := r1, ins := l1, out := by omega, ins1 := by omega, st1 := by omega, out1 := by omega, stv := odd_no s4, iniv := r2, s1 := s5, s2 := s6, row := fun l hl => ⟨(s7 l hl).1, odd_no (s7 l hl).2⟩, ok := by simpa using h3 }

theorem drops_rw (p : Nat → Bool) : ∀ l : List Cl, V.drops p (l.map fun l => bools (insB l)) = l.map fun l => bools (insB l)
  | [] => rfl
  | a :: l => by simp only [List.map_cons, V.drops, V.drop, drops_rw p l]
theorem rw_ok : ∀ l : List Cl, V.dats (l.map fun l => bools (insB l)) = true ∧ allFit 1 (l.map fun l => bools (insB l)) = true ∧ (l.map fun l => bools (insB l)).flatMap V.vc = l.map fun l => bools (insB l)
  | [] => ⟨rfl, rfl, rfl⟩
  | a :: l => by
    obtain ⟨h1, h2, h3⟩ := rw_ok l
    simp only [List.map_cons, V.dats, V.dat, allFit, V.fit, V.vc, V.one, List.flatMap_cons, h1, h2, h3, List.length_singleton]
    exact ⟨rfl, rfl, rfl⟩
def Wi.startV (m : Mo) (w : Wi) : V := if Wi.fits m w = 0 then .tup [bools (Wi.state m w), rwB w.seq, vi 0] else .tup [bools [], rwB [], vi (Wi.fits m w)]

set_option maxHeartbeats 8000000 in
theorem ev_wstart (m : Mo) (w : Wi) (hs : m.g.Sm) : Ev TE 38 [m.v, w.v] (Wi.startV m w) := by
  have hM : maxLen = 9223372036854775807 := rfl
  have hfit := ev_wfits m w hs
  unfold Mo.v Wi.v at hfit ⊢
  refine Ev.of_awp Tryz.func38 rfl (by simp [nts]) ?_
  
  refine awp_seq (vc_ok mixed _ _ _ _ ?_)
  simp only [sz.down, ↓reduceIte, Nat.reduceEqDiff, Nat.reduceLT, TEP, nts, Tryz.results38]
  refine awp_seq (vc_ok mixed _ _ _ _ ?_)
  simp only [sz.down, ↓reduceIte, Nat.reduceEqDiff, Nat.reduceLT, Nat.reduceAdd, reduceCtorEq, TEP, tis, ens]
  refine ACalls.ev hfit rfl ?_
  simp only [sz.down, ↓reduceIte, Nat.reduceLT, TEP]
  refine vcB.mk (fun hc => ?_) (fun hc => ?_)
  · have hc : Wi.fits m w ≠ 0 := by simpa using hc
    simp only [sz.down, ↓reduceIte, Nat.reduceEqDiff, Nat.reduceLT, TEP]
    unfold Wi.startV
    rw [if_neg hc]
    exact Reif.tup (Reifs.cons Reif.nils (Reifs.cons Reif.nils (Reifs.dat rfl)))
  · have hc : Wi.fits m w = 0 := by simpa using hc
    have ft := fit_of hc
    have f1 := ft.st1
    have f2 := ft.s2
    have f3 := ft.st
    have f4 := ft.lat
    have f5 := ft.ini
    have f6 := ft.ins1
    simp only [sz.down]
    refine awp_seq (vc_ok mixed _ _ _ _ ?_)
    simp only [sz.down, Nat.reduceLT, TEP]
    refine awp_bareAt 8 1 (by simp only [sz.down, ↓reduceIte]) ?_
    refine awp_seq (vc_ok mixed _ _ _ _ ?_)
    simp only [sz.down, ↓reduceIte, Nat.reduceEqDiff, Nat.reduceLT, Nat.reduceLeDiff, Nat.reduceAdd, TEP, tis]
    refine awp_loop (fun k f h => ∃ i, k + i = w.st.length ∧ f.t 2 = .lp 0 0 ∧ f.t 3 = .lp 1 0 ∧ f.t 24 = ints w.st ∧ f.t 25 = vi w.st.length ∧ f.t 26 = vi i ∧ f.t 8 = .ls 2 1 0 i i ∧ f.d = [] ∧ h = [O.cells [vi m.g.ins, ints m.g.next, ints m.g.init, prs m.g.ands, ints m.g.outs, strs m.ins, strs m.lat, strs m.out], O.cells [vi w.bad, ints w.st, cls w.steps], .cells ((stB m w i).map V.bool)]) w.st.length ⟨0, by simp, by simp only [sz.down, ↓reduceIte, Nat.reduceEqDiff], by simp only [sz.down, ↓reduceIte, Nat.reduceEqDiff], by simp only [sz.down, ↓reduceIte, Nat.reduceEqDiff], by simp only [sz.down, ↓reduceIte, Nat.reduceEqDiff], by first | ((simp only [sz.down, ↓reduceIte]); rfl) | (simp only [sz.down, ↓reduceIte, Nat.reduceEqDiff, Nat.reduceLT, Nat.reduceLeDiff, Nat.reduceAdd, Nat.reduceSub, Int.reduceToNat, Nat.reduceDiv, Int.reduceLT, Int.reduceLE, Int.reduceNeg, Int.reduceBEq, Int.reduceBNe, Int.reduceAdd, Int.reduceSub, Nat.reduceBEq, reduceCtorEq, Nat.reduceMul, sp.down, pvNilI, Tryz.results38]), by first | ((simp only [sz.down, ↓reduceIte, Nat.reduceEqDiff]); rfl) | (simp only [sz.down, ↓reduceIte, Nat.reduceEqDiff]), by simp only [sz.down], rfl⟩ ?_
    rintro k f h ⟨i, hk, h2, h3, h24, h25, h26, h8, hd, rfl⟩
    refine vc_ok mixed _ _ _ _ ?_
    simp only [sz.down, ↓reduceIte, Nat.reduceLT, TEP, h25, h26]
    refine vcB.mk (fun hlt => ?_) (fun hlt => ?_)
    · simp only [decide_eq_true_eq, Int.ofNat_lt] at hlt
      have hg1 : (m.g.init.map vi).getD i .any = vi m.g.init[i] := getI (by omega) _
      have hg2 : (w.st.map vi).getD i .any = vi w.st[i] := getI hlt _
      have hge : m.g.init.getD i 0 = m.g.init[i] := getD_at (by omega)
      have hge2 : w.st.getD i 0 = w.st[i] := getD_at hlt
      have hw := wrap_succ (show i < maxLen by omega)
      have key : ∀ b, stv m.g.init[i] w.st[i] = b → stB m w (i + 1) = stB m w i ++ [b] := fun b hb => by rw [stB_succ, hge, hge2, hb]
      cases e1 : w.st[i] == 1 with
      | true =>
        simp only [sz.down, ↓reduceIte, Nat.reduceEqDiff, Nat.reduceLT, Nat.reduceLeDiff, Nat.reduceAdd, reduceCtorEq, Nat.reduceMul, TEP, tis, h2, h24, h26, h8, hd, hg1, hg2, e1, drops_b, hw]
        refine ⟨⟨by omega, by omega⟩, ⟨rfl, by decide⟩, ⟨by rw [stB_len]; omega, by omega, by omega⟩, .inl ⟨k - 1, by omega, i + 1, by omega, by simp only [sz.down, ↓reduceIte, Nat.reduceEqDiff, Nat.reduceBEq, h2], by simp only [sz.down, ↓reduceIte, Nat.reduceEqDiff, Nat.reduceBEq, h3], by simp only [sz.down, ↓reduceIte, Nat.reduceEqDiff, h24], by simp only [sz.down, ↓reduceIte, Nat.reduceEqDiff, h25], rfl, by rfl, by simp only [sz.down, hd], ?_⟩⟩
        rw [key true (by simp only [stv, e1, Bool.true_or]), List.map_append]; rfl
      | false =>
        cases e2 : w.st[i] == 2 with
        | true =>
          simp only [sz.down, ↓reduceIte, Nat.reduceEqDiff, Nat.reduceLT, Nat.reduceLeDiff, Nat.reduceAdd, reduceCtorEq, Nat.reduceMul, TEP, tis, h2, h24, h26, h8, hd, hg1, hg2, e1, e2, drops_b, hw]
          refine ⟨⟨by omega, by omega⟩, ⟨by omega, by omega⟩, ⟨rfl, by decide⟩, ⟨by rw [stB_len]; omega, by omega, by omega⟩, .inl ⟨k - 1, by omega, i + 1, by omega, by simp only [sz.down, ↓reduceIte, Nat.reduceEqDiff, Nat.reduceBEq, h2], by simp only [sz.down, ↓reduceIte, Nat.reduceEqDiff, Nat.reduceBEq, h3], by simp only [sz.down, ↓reduceIte, Nat.reduceEqDiff, h24], by simp only [sz.down, ↓reduceIte, Nat.reduceEqDiff, h25], rfl, by rfl, by simp only [sz.down, hd], ?_⟩⟩
          rw [key (m.g.init[i] == 1) (by simp only [stv, e1, e2, Bool.false_or, Bool.true_and]), List.map_append]; rfl
        | false =>
          simp only [sz.down, ↓reduceIte, Nat.reduceEqDiff, Nat.reduceLT, Nat.reduceLeDiff, Nat.reduceAdd, reduceCtorEq, Nat.reduceMul, TEP, tis, h2, h24, h26, h8, hd, hg1, hg2, e1, e2, drops_b, hw]
          refine ⟨⟨by omega, by omega⟩, ⟨rfl, by decide⟩, ⟨by rw [stB_len]; omega, by omega, by omega⟩, .inl ⟨k - 1, by omega, i + 1, by omega, by simp only [sz.down, ↓reduceIte, Nat.reduceEqDiff, Nat.reduceBEq, h2], by simp only [sz.down, ↓reduceIte, Nat.reduceEqDiff, Nat.reduceBEq, h3], by simp only [sz.down, ↓reduceIte, Nat.reduceEqDiff, h24], by simp only [sz.down, ↓reduceIte, Nat.reduceEqDiff, h25], rfl, by rfl, by simp only [sz.down, hd], ?_⟩⟩
          rw [key false (by simp only [stv, e1, e2, Bool.false_or, Bool.false_and]), List.map_append]; rfl
    · simp only [decide_eq_false_iff_not, Int.ofNat_lt] at hlt
      have hi : i = w.st.length := by omega
      subst hi
      have hst : stB m w w.st.length = w.state m := rfl
      rw [hst] at *
      have hL : (w.state m).length = w.st.length := stB_len
      simp only [sz.down]
      refine awp_popAt (h0 := [O.cells [vi m.g.ins, ints m.g.next, ints m.g.init, prs m.g.ands, ints m.g.outs, strs m.ins, strs m.lat, strs m.out], O.cells [vi w.bad, ints w.st, cls w.steps]]) 8 (bools (w.state m)) (by simp only [sz.down, Nat.reduceAdd, hd]) (by simp only [sz.down, ↓reduceIte, Nat.reduceEqDiff, Nat.reduceAdd, h8, from_]) ?_ ?_
      · simp only [sz.down, ↓reduceIte, Nat.reduceEqDiff, Nat.reduceAdd, h8]
        exact reif_bools ((keepP_last (h0 := [_, _])).trans (by rw [drops_b])) (by omega)
      · refine awp_seq (vc_ok mixed _ _ _ _ ?_)
        simp only [sz.down, Nat.reduceLT, Nat.reduceAdd, TEP, from_, hd]
        refine awp_bareAt 11 1 (by simp only [sz.down, ↓reduceIte]) ?_
        refine awp_seq (vc_ok mixed _ _ _ _ ?_)
        simp only [sz.down, ↓reduceIte, Nat.reduceEqDiff, Nat.reduceLT, Nat.reduceLeDiff, Nat.reduceAdd, TEP, tis, from_, h3]
        refine awp_loop (fun k f h => ∃ i, k + i = w.steps.length ∧ f.t 8 = bools (w.state m) ∧ f.t 51 = cls w.steps ∧ f.t 52 = vi w.steps.length ∧ f.t 53 = vi i ∧ f.t 11 = .ls 2 1 0 i i ∧ f.d = [] ∧ h = [O.cells [vi m.g.ins, ints m.g.next, ints m.g.init, prs m.g.ands, ints m.g.outs, strs m.ins, strs m.lat, strs m.out], O.cells [vi w.bad, ints w.st, cls w.steps], .cells ((w.steps.take i).map fun l => bools (insB l))]) w.steps.length ⟨0, by simp, by simp only [sz.down, ↓reduceIte, Nat.reduceEqDiff], by simp only [sz.down, ↓reduceIte, Nat.reduceEqDiff], by simp only [sz.down, ↓reduceIte, Nat.reduceEqDiff], by first | ((simp only [sz.down, ↓reduceIte]); rfl) | (simp only [sz.down, ↓reduceIte, Nat.reduceEqDiff, Nat.reduceLT, Nat.reduceLeDiff, Nat.reduceAdd, Nat.reduceSub, Int.reduceToNat, Nat.reduceDiv, Int.reduceLT, Int.reduceLE, Int.reduceNeg, Int.reduceBEq, Int.reduceBNe, Int.reduceAdd, Int.reduceSub, Nat.reduceBEq, reduceCtorEq, Nat.reduceMul, sp.down, pvNilI, Tryz.results38]), by first | ((simp only [sz.down, ↓reduceIte, Nat.reduceEqDiff]); rfl) | (simp only [sz.down, ↓reduceIte, Nat.reduceEqDiff]), by simp only [sz.down], rfl⟩ ?_
        rintro k f h ⟨i, hk, h8, h51, h52, h53, h11, hd, rfl⟩
        refine awp_seq (vc_ok mixed _ _ _ _ ?_)
        simp only [sz.down, Nat.reduceLT, TEP, h52, h53]
        refine awp_seq (vc_ok mixed _ _ _ _ ?_)
        simp only [sz.down, ↓reduceIte]
        refine vcB.mk (fun hlt => ?_) (fun hlt => ?_)
        · simp only [decide_eq_true_eq, Int.ofNat_lt] at hlt
          have hgl : (w.steps.map fun c => ints c).getD i .any = ints w.steps[i] := getC hlt _
          obtain ⟨q1, q2⟩ := ft.row _ (List.getElem_mem hlt)
          refine awp_seq (awp_block ?_)
          refine awp_seq (vc_ok mixed _ _ _ _ ?_)
          simp only [sz.down, ↓reduceIte, Nat.reduceEqDiff, Nat.reduceLT, TEP, tis, h51, h53, hgl]
          refine ⟨⟨by omega, by omega⟩, ?_⟩
          refine awp_seq (vc_ok mixed _ _ _ _ ?_)
          simp only [sz.down, Nat.reduceLT, TEP]
          refine awp_bareAt 14 1 (by simp only [sz.down, ↓reduceIte]) ?_
          refine awp_seq (vc_ok mixed _ _ _ _ ?_)
          simp only [sz.down, ↓reduceIte, Nat.reduceEqDiff, Nat.reduceLT, Nat.reduceAdd, TEP, tis, hd]
          generalize hl : w.steps[i] = l at *
          refine awp_loop (fun k f h => ∃ j, k + j = l.length ∧ f.t 8 = bools (w.state m) ∧ f.t 51 = cls w.steps ∧ f.t 52 = vi w.steps.length ∧ f.t 53 = vi i ∧ f.t 11 = .ls 2 1 0 i i ∧ f.t 57 = ints l ∧ f.t 58 = vi l.length ∧ f.t 59 = vi j ∧ f.t 14 = .ls 3 1 0 j j ∧ f.d = [] ∧ h = [O.cells [vi m.g.ins, ints m.g.next, ints m.g.init, prs m.g.ands, ints m.g.outs, strs m.ins, strs m.lat, strs m.out], O.cells [vi w.bad, ints w.st, cls w.steps], .cells ((w.steps.take i).map fun l => bools (insB l)), .cells ((insB (l.take j)).map V.bool)]) l.length ⟨0, by simp, by simp only [sz.down, ↓reduceIte, Nat.reduceEqDiff, h8], by simp only [sz.down, ↓reduceIte, Nat.reduceEqDiff, h51], by simp only [sz.down, ↓reduceIte, Nat.reduceEqDiff, h52], by simp only [sz.down, ↓reduceIte, Nat.reduceEqDiff, h53], by simp only [sz.down, ↓reduceIte, Nat.reduceEqDiff, h11], by simp only [sz.down, ↓reduceIte, Nat.reduceEqDiff], by simp only [sz.down, ↓reduceIte, Nat.reduceEqDiff], by first | ((simp only [sz.down, ↓reduceIte]); rfl) | (simp only [sz.down, ↓reduceIte, Nat.reduceEqDiff, Nat.reduceLT, Nat.reduceLeDiff, Nat.reduceAdd, Nat.reduceSub, Int.reduceToNat, Nat.reduceDiv, Int.reduceLT, Int.reduceLE, Int.reduceNeg, Int.reduceBEq, Int.reduceBNe, Int.reduceAdd, Int.reduceSub, Nat.reduceBEq, reduceCtorEq, Nat.reduceMul, sp.down, pvNilI, Tryz.results38]), by first | ((simp only [sz.down, ↓reduceIte, Nat.reduceEqDiff]); rfl) | (simp only [sz.down, ↓reduceIte, Nat.reduceEqDiff]), by simp only [sz.down], rfl⟩ ?_
          rintro k2 f h ⟨j, hk2, h8, h51, h52, h53, h11, h57, h58, h59, h14, hd, rfl⟩
          refine vc_ok mixed _ _ _ _ ?_
          simp only [sz.down, ↓reduceIte, Nat.reduceLT, TEP, h58, h59]
          refine vcB.mk (fun hlt2 => ?_) (fun hlt2 => ?_)
          · simp only [decide_eq_true_eq, Int.ofNat_lt] at hlt2
            have hgj : (l.map vi).getD j .any = vi l[j] := getI hlt2 _
            have hw := wrap_succ (show j < maxLen by omega)
            have key : insB (l.take (j + 1)) = insB (l.take j) ++ [l[j] == 1] := by unfold insB; rw [List.take_add_one, List.map_append]; simp [hlt2]
            have hil : (insB (l.take j)).length = j := by simp [insB]; omega
            have hdr : ∀ p, V.drops p ((w.steps.take i).map fun l => bools (insB l)) = (w.steps.take i).map fun l => bools (insB l) := fun p => drops_rw p _
            simp only [sz.down, ↓reduceIte, Nat.reduceEqDiff, Nat.reduceLT, reduceCtorEq, Nat.reduceMul, TEP, tis, h57, h59, h14, hd, hgj, hw, drops_b, hdr]
            refine ⟨⟨by omega, by omega⟩, ⟨rfl, by decide⟩, ⟨by omega, by omega, by omega⟩, .inl ⟨k2 - 1, by omega, j + 1, by omega, by simp only [sz.down, ↓reduceIte, Nat.reduceEqDiff, h8], by simp only [sz.down, ↓reduceIte, Nat.reduceEqDiff, h51], by simp only [sz.down, ↓reduceIte, Nat.reduceEqDiff, h52], by simp only [sz.down, ↓reduceIte, Nat.reduceEqDiff, h53], by simp only [sz.down, ↓reduceIte, Nat.reduceEqDiff, Nat.reduceBEq, h11], by simp only [sz.down, ↓reduceIte, Nat.reduceEqDiff, h57], by simp only [sz.down, ↓reduceIte, Nat.reduceEqDiff, h58], rfl, by rfl, by simp only [sz.down, hd], ?_⟩⟩
            rw [key, List.map_append]; rfl
          · simp only [decide_eq_false_iff_not, Int.ofNat_lt] at hlt2
            have hj : j = l.length := by omega
            subst hj
            have hil : (insB l).length = l.length := by simp [insB]
            simp only [sz.down, List.take_length]
            refine awp_popAt (h0 := [O.cells [vi m.g.ins, ints m.g.next, ints m.g.init, prs m.g.ands, ints m.g.outs, strs m.ins, strs m.lat, strs m.out], O.cells [vi w.bad, ints w.st, cls w.steps], .cells ((w.steps.take i).map fun l => bools (insB l))]) 14 (bools (insB l)) (by simp only [sz.down, Nat.reduceAdd, hd]) (by simp only [sz.down, ↓reduceIte, Nat.reduceEqDiff, Nat.reduceAdd, h14, from_]) ?_ ?_
            · simp only [sz.down, ↓reduceIte, Nat.reduceEqDiff, Nat.reduceAdd, h14]
              exact reif_bools ((keepP_last (h0 := [_, _, _])).trans (by rw [drops_b])) (by omega)
            · refine vc_ok mixed _ _ _ _ ?_
              have hdr : ∀ p, V.drops p ((w.steps.take i).map fun l => bools (insB l)) = (w.steps.take i).map fun l => bools (insB l) := fun p => drops_rw p _
              simp only [sz.down, ↓reduceIte, Nat.reduceEqDiff, Nat.reduceLT, Nat.reduceLeDiff, Nat.reduceAdd, reduceCtorEq, Nat.reduceMul, TEP, tis, from_, h11, hd, hdr]
              refine ⟨⟨rfl, by decide⟩, ⟨by rw [List.length_take]; omega, by omega, by omega⟩, ?_⟩
              refine vc_ok mixed _ _ _ _ ?_
              simp only [sz.down, ↓reduceIte, Nat.reduceEqDiff, Nat.reduceLT, TEP, h53]
              have hw := wrap_succ (show i < maxLen by omega)
              refine .inl ⟨k - 1, by omega, i + 1, by omega, by simp only [sz.down, ↓reduceIte, Nat.reduceEqDiff, h8], by simp only [sz.down, ↓reduceIte, Nat.reduceEqDiff, h51], by simp only [sz.down, ↓reduceIte, Nat.reduceEqDiff, h52], by simp only [sz.down, ↓reduceIte, hw], rfl, by simp only [sz.down], ?_⟩
              rw [List.take_add_one, List.map_append]
              simp [hlt, hl]
        · simp only [decide_eq_false_iff_not, Int.ofNat_lt] at hlt
          have hi : i = w.steps.length := by omega
          subst hi
          simp only [sz.down, List.take_length]
          refine awp_popAt (h0 := [O.cells [vi m.g.ins, ints m.g.next, ints m.g.init, prs m.g.ands, ints m.g.outs, strs m.ins, strs m.lat, strs m.out], O.cells [vi w.bad, ints w.st, cls w.steps]]) 11 (rwB w.seq) (by simp only [sz.down, Nat.reduceAdd, hd]) (by simp only [sz.down, ↓reduceIte, Nat.reduceEqDiff, Nat.reduceAdd, h11, from_]) ?_ ?_
          · simp only [sz.down, ↓reduceIte, Nat.reduceEqDiff, Nat.reduceAdd, h11]
            unfold Wi.seq
            show Reif _ _ _ (.is false 1 ((w.steps.map insB).map fun c => bools c))
            rw [show (w.steps.map insB).map (fun c => bools c) = w.steps.map fun l => bools (insB l) by rw [List.map_map]; rfl]
            exact Reif.ls ((keepP_last (h0 := [_, _])).trans (by rw [drops_rw])) (Reifs.dat (rw_ok _).1) (rw_ok _).2.1 (rw_ok _).2.2 (by simp)
          · refine vc_ok mixed _ _ _ _ ?_
            simp only [sz.down, ↓reduceIte, Nat.reduceEqDiff, Nat.reduceLT, Nat.reduceAdd, TEP, from_, h8, hd]
            unfold Wi.startV
            rw [if_pos hc]
            exact Reif.dat (by simp only [V.dat, V.dats, Bool.and_self])

/-! ### A replay -/
/-- Outputs, and a state, behind some steps. -/
def Gr.run (g : Gr) (st : List Bool) (sq : List (List Bool)) : List Bool × List Bool := sq.foldl (fun x ins => (g.out x.2 ins, g.nxt x.2 ins)) ([], st)
theorem Gr.run_succ {g : Gr} {st : List Bool} {sq : List (List Bool)} {i : Nat} (h : i < sq.length) : g.run st (sq.take (i + 1)) = (g.out (g.run st (sq.take i)).2 sq[i], g.nxt (g.run st (sq.take i)).2 sq[i]) := by
  unfold Gr.run
  rw [List.take_add_one, List.foldl_append]
  simp [h]
theorem Gr.step_ok {g : Gr} {st ins : List Bool} (hg : g.chk = 0) (h1 : st.length = g.next.length) (h2 : (ins.length : Int) = g.ins) : g.valE st ins = 0 ∧ (g.out st ins).length = g.outs.length ∧ (g.nxt st ins).length = g.next.length := by
  have hE : g.valE st ins = 0 := by unfold Gr.valE; rw [if_neg (by simp [hg]), if_neg (by simp [h1, h2])]
  refine ⟨hE, ?_, ?_⟩
  · unfold Gr.out; rw [if_pos hE]; simp
  · unfold Gr.nxt; rw [if_pos hE]; simp
theorem Gr.run_len {g : Gr} {st : List Bool} {sq : List (List Bool)} (hg : g.chk = 0) (h1 : st.length = g.next.length) (h2 : ∀ ins ∈ sq, (ins.length : Int) = g.ins) : ∀ i, i ≤ sq.length → (g.run st (sq.take i)).2.length = g.next.length ∧ (0 < i → (g.run st (sq.take i)).1.length = g.outs.length)
  | 0, _ => ⟨by simpa [Gr.run] using h1, by simp⟩
  | i + 1, h => by
    have ih := Gr.run_len hg h1 h2 i (by omega)
    rw [Gr.run_succ (by omega)]
    have := Gr.step_ok hg ih.1 (h2 _ (List.getElem_mem (show i < sq.length by omega)))
    exact ⟨this.2.2, fun _ => this.2.1⟩
def Wi.comes (m : Mo) (w : Wi) : Bool := (m.g.run (w.state m) w.seq).1.getD w.bad.toNat false
def Wi.replayV (m : Mo) (w : Wi) : V := if Wi.fits m w = 0 then .tup [.bool (w.comes m), vi 0] else .tup [.bool false, vi (Wi.fits m w)]

theorem getRw {l : List (List Bool)} {i : Nat} (h : i < l.length) (d : V) : (l.map fun c => bools c).getD i d = bools l[i] := getD_map h d

set_option maxHeartbeats 4000000 in
theorem ev_wreplay (m : Mo) (w : Wi) (hs : m.g.Sm) : Ev TE 40 [m.v, w.v] (Wi.replayV m w) := by
  have hM : maxLen = 9223372036854775807 := rfl
  have hst := ev_wstart m w hs
  unfold Wi.startV at hst
  unfold Mo.v Wi.v at hst ⊢
  refine Ev.of_awp Tryz.func40 rfl (by simp [nts]) (vc_ok mixed _ _ _ _ ?_)
  simp only [sz.down, ↓reduceIte, Nat.reduceEqDiff, Nat.reduceLT, Nat.reduceAdd, reduceCtorEq, TEP, tis, ens, nts, Tryz.results40]
  by_cases hc : Wi.fits m w = 0
  · rw [if_pos hc] at hst
    have ft := fit_of hc
    have hql : w.seq.length = w.steps.length := by simp [Wi.seq]
    have hsl : (w.state m).length = m.g.next.length := by rw [← ft.lat, ← ft.st]; exact stB_len
    have hql2 : ∀ ins ∈ w.seq, (ins.length : Int) = m.g.ins := fun ins hi => by
      simp only [Wi.seq, List.mem_map] at hi
      obtain ⟨l, hl, rfl⟩ := hi
      have := (ft.row l hl).1
      rw [← ft.ins]
      simp only [insB, List.length_map]
      omega
    have f2 := ft.s2
    refine ACalls.ev hst rfl ?_
    simp only [sz.down, ↓reduceIte, Nat.reduceEqDiff, Nat.reduceLT, Nat.reduceAdd, Int.reduceBNe, TEP, tis]
    refine awp_loop (fun k f h => ∃ i, k + i = w.seq.length ∧ f.t 2 = .lp 0 0 ∧ f.t 3 = .lp 1 0 ∧ f.t 22 = rwB w.seq ∧ f.t 23 = vi w.seq.length ∧ f.t 24 = vi i ∧ (0 < i → f.t 9 = bools (m.g.run (w.state m) (w.seq.take i)).1) ∧ f.t 6 = bools (m.g.run (w.state m) (w.seq.take i)).2 ∧ f.d = [] ∧ h = [O.cells [vi m.g.ins, ints m.g.next, ints m.g.init, prs m.g.ands, ints m.g.outs, strs m.ins, strs m.lat, strs m.out], O.cells [vi w.bad, ints w.st, cls w.steps]]) w.seq.length ⟨0, by simp, by simp only [sz.down, ↓reduceIte, Nat.reduceEqDiff], by simp only [sz.down, ↓reduceIte, Nat.reduceEqDiff], by simp only [sz.down, ↓reduceIte, Nat.reduceEqDiff], by simp only [sz.down, ↓reduceIte, Nat.reduceEqDiff], by first | ((simp only [sz.down, ↓reduceIte]); rfl) | (simp only [sz.down, ↓reduceIte, Nat.reduceEqDiff, Nat.reduceLT, Nat.reduceLeDiff, Nat.reduceAdd, Nat.reduceSub, Int.reduceToNat, Nat.reduceDiv, Int.reduceLT, Int.reduceLE, Int.reduceNeg, Int.reduceBEq, Int.reduceBNe, Int.reduceAdd, Int.reduceSub, Nat.reduceBEq, reduceCtorEq, Nat.reduceMul, sp.down, pvNilI, Tryz.results40]), fun h => absurd h (Nat.lt_irrefl 0), by first | ((simp only [sz.down, ↓reduceIte, Nat.reduceEqDiff]); rfl) | (simp only [sz.down, ↓reduceIte, Nat.reduceEqDiff, Nat.reduceLT, Nat.reduceLeDiff, Nat.reduceAdd, Nat.reduceSub, Int.reduceToNat, Nat.reduceDiv, Int.reduceLT, Int.reduceLE, Int.reduceNeg, Int.reduceBEq, Int.reduceBNe, Int.reduceAdd, Int.reduceSub, Nat.reduceBEq, reduceCtorEq, Nat.reduceMul, sp.down, pvNilI, Tryz.results40]), by simp only [sz.down], rfl⟩ ?_
    rintro k f h ⟨i, hk, h2, h3, h22, h23, h24, h9, h6, hd, rfl⟩
    refine vc_ok mixed _ _ _ _ ?_
    simp only [sz.down, ↓reduceIte, Nat.reduceLT, TEP, h23, h24]
    refine vcB.mk (fun hlt => ?_) (fun hlt => ?_)
    · simp only [decide_eq_true_eq, Int.ofNat_lt] at hlt
      have hgi : (w.seq.map fun c => bools c).getD i .any = bools w.seq[i] := getRw hlt _
      have hw := wrap_succ (show i < maxLen by omega)
      have hrl := Gr.run_len ft.g hsl hql2 i (by omega)
      simp only [sz.down, ↓reduceIte, Nat.reduceEqDiff, Nat.reduceLT, Nat.reduceLeDiff, Nat.reduceAdd, reduceCtorEq, TEP, tis, ens, h2, h22, h24, h6, hgi]
      refine ⟨⟨by omega, by omega⟩, ACalls.ev (ev_astep m.g _ _ hs) rfl ?_⟩
      simp only [sz.down, ↓reduceIte, Nat.reduceEqDiff, Nat.reduceLT, Nat.reduceAdd, TEP, h24, hw]
      refine .inl ⟨k - 1, by omega, i + 1, by omega, h2, h3, h22, h23, rfl, fun _ => ?_, ?_, hd, rfl⟩
      · rw [Gr.run_succ hlt]; rfl
      · rw [Gr.run_succ hlt]; rfl
    · simp only [decide_eq_false_iff_not, Int.ofNat_lt] at hlt
      have hi : i = w.seq.length := by omega
      subst hi
      have hrl := Gr.run_len ft.g hsl hql2 w.seq.length (Nat.le_refl _)
      have h9 := h9 (by rw [hql]; exact ft.s1)
      rw [List.take_length] at h9 hrl
      have hr2 := hrl.2 (by rw [hql]; exact ft.s1)
      obtain ⟨b, hb⟩ : ∃ b : Nat, w.bad = b := ⟨w.bad.toNat, by have := ft.bad0; omega⟩
      have b1 := ft.bad1
      have b2 := ft.out
      have hbl : b < (m.g.run (w.state m) w.seq).1.length := by omega
      have hgb : ((m.g.run (w.state m) w.seq).1.map V.bool).getD b .any = .bool ((m.g.run (w.state m) w.seq).1[b]) := getB hbl _
      simp only [sz.down, ↓reduceIte, Nat.reduceEqDiff, Nat.reduceLT, Nat.reduceLeDiff, Nat.reduceAdd, TEP, tis, h3, h9, hd, hb, hgb]
      refine ⟨⟨by omega, by omega⟩, ?_⟩
      unfold Wi.replayV Wi.comes
      rw [if_pos hc, hb, Int.toNat_natCast, getD_at hbl]
      exact Reif.dat rfl
  · rw [if_neg hc] at hst
    refine ACalls.ev hst rfl ?_
    have hcb : (Wi.fits m w != 0) = true := by simpa using hc
    simp only [sz.down, ↓reduceIte, Nat.reduceEqDiff, Nat.reduceLT, Nat.reduceAdd, TEP, hcb]
    unfold Wi.replayV
    rw [if_neg hc]
    exact Reif.dat rfl

end Go.Proofs.YtboolnpmlmgpkaaGreatDoor
