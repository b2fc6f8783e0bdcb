/- Functions of the program, part 11. -/
import Derived.Test.YtajcfppemkdomaaF10
set_option linter.unusedVariables false
set_option linter.unusedSimpArgs false
set_option linter.unnecessarySimpa false
namespace Go.Proofs.Ytajcfppemkdomaa
open Go Go.Proofs Go.Abs


theorem ev_bools8 (a b : List Bool) : Ev TE 26 [bools a, bools b] (.bool (a == b)) := by
  refine Ev.bnd fun hb => ?_
  have hlen := bools_len hb
  refine Ev.of_awp Try.func26 rfl (by simp [nts]) (vc_ok mixed _ _ _ _ ?_)
  simp only [sz.down, ↓reduceIte, Nat.reduceEqDiff, Nat.reduceLT, reduceCtorEq, TEP, tis, nts, Try.results26]
  refine vcB.mk (fun hc => ?_) (fun hc => ?_)
  · simp only [sz.down, ↓reduceIte, Nat.reduceLT, TEP]
    refine Reif.eq rfl ?_
    simp only [bne_iff_ne, ne_eq, Int.natCast_inj] at hc
    have : ¬ a = b := fun h => hc (by rw [h])
    simp [this]
  · have hl : a.length = b.length := by simpa [Int.natCast_inj] using hc
    simp only [sz.down, Nat.reduceLT, TEP]
    refine awp_loop (fun m f h => ∃ i, m + i = a.length ∧ f.t 0 = bools a ∧ f.t 1 = bools b ∧ f.t 5 = .int .i64 (i : Int) ∧ f.d = [] ∧ a.take i = b.take i) a.length ⟨0, by simp, rfl, rfl, rfl, rfl, by simp⟩ ?_
    rintro m f h ⟨i, hm, h0, h1, h5, hd, hall⟩
    refine vc_ok mixed _ _ _ _ ?_
    simp only [sz.down, ↓reduceIte, Nat.reduceEqDiff, Nat.reduceLT, reduceCtorEq, TEP, tis, h0, h5]
    refine vcB.mk (fun hc => ?_) (fun hc => ?_)
    · simp only [decide_eq_true_eq, Int.ofNat_lt] at hc
      have hc2 : i < b.length := by omega
      simp only [sz.down, ↓reduceIte, Nat.reduceEqDiff, Nat.reduceLT, reduceCtorEq, TEP, tis, h0, h1, h5, getB hc, getB hc2]
      refine ⟨by decide +kernel, ⟨by omega, by omega⟩, ⟨by omega, by omega⟩, vcB.mk (fun hc => ?_) (fun hc => ?_)⟩
      · simp only [sz.down, ↓reduceIte, Nat.reduceLT, TEP, hd]
        refine Reif.eq rfl ?_
        have : ¬ a = b := fun h => by subst h; simp at hc
        simp [this]
      · simp only [sz.down, ↓reduceIte, Nat.reduceEqDiff, Nat.reduceLT, TEP, h5, wrap_succ (show i < maxLen by omega)]
        exact .inl ⟨m - 1, by omega, i + 1, by omega, h0, h1, rfl, hd, take_eq hall (by omega) (by omega) (by simpa using hc)⟩
    · simp only [decide_eq_false_iff_not, Int.ofNat_lt] at hc
      simp only [sz.down, ↓reduceIte, Nat.reduceLT, TEP, hd]
      refine Reif.eq rfl ?_
      rw [List.take_of_length_le (by omega), List.take_of_length_le (by omega)] at hall
      simp [hall]


theorem ev_eqI (a b : List Int) : Ev TE 31 [ints a, ints b] (.bool (a == b)) := by
  refine Ev.bnd fun hb => ?_
  have hlen := ints_len hb
  refine Ev.of_awp Try.func31 rfl (by simp [nts]) (vc_ok mixed _ _ _ _ ?_)
  simp only [sz.down, ↓reduceIte, Nat.reduceEqDiff, Nat.reduceLT, reduceCtorEq, TEP, tis, nts, Try.results31]
  refine vcB.mk (fun hc => ?_) (fun hc => ?_)
  · simp only [sz.down, ↓reduceIte, Nat.reduceLT, TEP]
    refine Reif.eq rfl ?_
    simp only [bne_iff_ne, ne_eq, Int.natCast_inj] at hc
    have : ¬ a = b := fun h => hc (by rw [h])
    simp [this]
  · have hl : a.length = b.length := by simpa [Int.natCast_inj] using hc
    simp only [sz.down, ↓reduceIte, Nat.reduceLT, reduceCtorEq, TEP, tis]
    refine awp_loop (fun m f h => ∃ i, m + i = a.length ∧ f.t 0 = ints a ∧ f.t 1 = ints b ∧ f.t 12 = .int .i64 (a.length : Int) ∧ f.t 13 = .int .i64 (i : Int) ∧ f.d = [] ∧ a.take i = b.take i) a.length ⟨0, by simp, rfl, rfl, rfl, rfl, rfl, by simp⟩ ?_
    rintro m f h ⟨i, hm, h0, h1, h12, h13, hd, hall⟩
    refine vc_ok mixed _ _ _ _ ?_
    simp only [sz.down, ↓reduceIte, Nat.reduceLT, TEP, h12, h13]
    refine vcB.mk (fun hc => ?_) (fun hc => ?_)
    · simp only [decide_eq_true_eq, Int.ofNat_lt] at hc
      have hc2 : i < b.length := by omega
      simp only [sz.down, ↓reduceIte, Nat.reduceEqDiff, Nat.reduceLT, reduceCtorEq, TEP, tis, h0, h1, h13, getI hc, getI hc2]
      refine ⟨by decide +kernel, ⟨by omega, by omega⟩, ⟨by omega, by omega⟩, vcB.mk (fun hc => ?_) (fun hc => ?_)⟩
      · simp only [sz.down, ↓reduceIte, Nat.reduceLT, TEP, hd]
        refine Reif.eq rfl ?_
        have : ¬ a = b := fun h => by subst h; simp at hc
        simp [this]
      · simp only [sz.down, ↓reduceIte, Nat.reduceEqDiff, Nat.reduceLT, TEP, h13, wrap_succ (show i < maxLen by omega)]
        exact .inl ⟨m - 1, by omega, i + 1, by omega, h0, h1, h12, rfl, hd, take_eq hall (by omega) (by omega) (by simpa using hc)⟩
    · simp only [decide_eq_false_iff_not, Int.ofNat_lt] at hc
      simp only [sz.down, ↓reduceIte, Nat.reduceLT, TEP, hd]
      refine Reif.eq rfl ?_
      rw [List.take_of_length_le (by omega), List.take_of_length_le (by omega)] at hall
      simp [hall]


theorem ev_eqB (a b : List Bool) : Ev TE 32 [bools a, bools b] (.bool (a == b)) := by
  refine Ev.bnd fun hb => ?_
  have hlen := bools_len hb
  refine Ev.of_awp Try.func32 rfl (by simp [nts]) (vc_ok mixed _ _ _ _ ?_)
  simp only [sz.down, ↓reduceIte, Nat.reduceEqDiff, Nat.reduceLT, reduceCtorEq, TEP, tis, nts, Try.results32]
  refine vcB.mk (fun hc => ?_) (fun hc => ?_)
  · simp only [sz.down, ↓reduceIte, Nat.reduceLT, TEP]
    refine Reif.eq rfl ?_
    simp only [bne_iff_ne, ne_eq, Int.natCast_inj] at hc
    have : ¬ a = b := fun h => hc (by rw [h])
    simp [this]
  · have hl : a.length = b.length := by simpa [Int.natCast_inj] using hc
    simp only [sz.down, ↓reduceIte, Nat.reduceLT, reduceCtorEq, TEP, tis]
    refine awp_loop (fun m f h => ∃ i, m + i = a.length ∧ f.t 0 = bools a ∧ f.t 1 = bools b ∧ f.t 12 = .int .i64 (a.length : Int) ∧ f.t 13 = .int .i64 (i : Int) ∧ f.d = [] ∧ a.take i = b.take i) a.length ⟨0, by simp, rfl, rfl, rfl, rfl, rfl, by simp⟩ ?_
    rintro m f h ⟨i, hm, h0, h1, h12, h13, hd, hall⟩
    refine vc_ok mixed _ _ _ _ ?_
    simp only [sz.down, ↓reduceIte, Nat.reduceLT, TEP, h12, h13]
    refine vcB.mk (fun hc => ?_) (fun hc => ?_)
    · simp only [decide_eq_true_eq, Int.ofNat_lt] at hc
      have hc2 : i < b.length := by omega
      simp only [sz.down, ↓reduceIte, Nat.reduceEqDiff, Nat.reduceLT, reduceCtorEq, TEP, tis, h0, h1, h13, getB hc, getB hc2]
      refine ⟨by decide +kernel, ⟨by omega, by omega⟩, ⟨by omega, by omega⟩, vcB.mk (fun hc => ?_) (fun hc => ?_)⟩
      · simp only [sz.down, ↓reduceIte, Nat.reduceLT, TEP, hd]
        refine Reif.eq rfl ?_
        have : ¬ a = b := fun h => by subst h; simp at hc
        simp [this]
      · simp only [sz.down, ↓reduceIte, Nat.reduceEqDiff, Nat.reduceLT, TEP, h13, wrap_succ (show i < maxLen by omega)]
        exact .inl ⟨m - 1, by omega, i + 1, by omega, h0, h1, h12, rfl, hd, take_eq hall (by omega) (by omega) (by simpa using hc)⟩
    · simp only [decide_eq_false_iff_not, Int.ofNat_lt] at hc
      simp only [sz.down, ↓reduceIte, Nat.reduceLT, TEP, hd]
      refine Reif.eq rfl ?_
      rw [List.take_of_length_le (by omega), List.take_of_length_le (by omega)] at hall
      simp [hall]


theorem datI {c : Cl} : (ints c).dat = true := by simp only [V.dat]
theorem datCl {l : List Cl} : (cls l).dat = true := by simp only [V.dat]
theorem datBo {l : List Bool} : (bools l).dat = true := by simp only [V.dat]
theorem ev_same1 (a b : Cl) : Ev TE 30 [ints a, ints b] (.bool (a == b)) := by
  refine Ev.of_awp Try.func30 rfl (by simp [nts]) (vc_ok mixed _ _ _ _ ?_)
  simp only [sz.down, ↓reduceIte, Nat.reduceEqDiff, Nat.reduceLT, reduceCtorEq, TEP, ens, nts, Try.results30]
  refine ACalls.ev (ev_eqI a b) (by simp only [V.dats, datI, Bool.and_self]) ?_
  simp only [sz.down, ↓reduceIte, Nat.reduceLT, TEP]
  exact Reif.dat rfl

theorem ev_eqF (a b : List Cl) : Ev TE 33 [cls a, cls b, .fn (.func 30) [] []] (.bool (a == b)) := by
  refine Ev.bnd fun hb => ?_
  have hlen := cls_len hb
  refine Ev.of_awp Try.func33 rfl (by simp [nts]) (vc_ok mixed _ _ _ _ ?_)
  simp only [sz.down, ↓reduceIte, Nat.reduceEqDiff, Nat.reduceLT, reduceCtorEq, TEP, tis, nts, Try.results33]
  refine vcB.mk (fun hc => ?_) (fun hc => ?_)
  · simp only [sz.down, ↓reduceIte, Nat.reduceLT, TEP]
    refine Reif.eq rfl ?_
    simp only [bne_iff_ne, ne_eq, Int.natCast_inj] at hc
    have : ¬ a = b := fun h => hc (by rw [h])
    simp [this]
  · have hl : a.length = b.length := by simpa [Int.natCast_inj] using hc
    simp only [sz.down, ↓reduceIte, Nat.reduceLT, reduceCtorEq, TEP, tis]
    refine awp_loop (fun m f h => ∃ i, m + i = a.length ∧ f.t 0 = cls a ∧ f.t 1 = cls b ∧ f.t 2 = .fn (.func 30) [] [] ∧ f.t 15 = cls a ∧ f.t 16 = .int .i64 (a.length : Int) ∧ f.t 17 = .int .i64 (i : Int) ∧ f.d = [] ∧ a.take i = b.take i) a.length ⟨0, by simp, rfl, rfl, rfl, rfl, rfl, rfl, rfl, by simp⟩ ?_
    rintro m f h ⟨i, hm, h0, h1, h2, h15, h16, h17, hd, hall⟩
    refine vc_ok mixed _ _ _ _ ?_
    simp only [sz.down, ↓reduceIte, Nat.reduceLT, TEP, h16, h17]
    refine vcB.mk (fun hc => ?_) (fun hc => ?_)
    · simp only [decide_eq_true_eq, Int.ofNat_lt] at hc
      have hc2 : i < b.length := by omega
      simp only [sz.down, ↓reduceIte, Nat.reduceEqDiff, Nat.reduceLT, TEP, tis, ens, h1, h2, h15, h17, getC hc, getC hc2]
      refine ⟨⟨by omega, by omega⟩, ⟨by omega, by omega⟩, ACalls.ev (ev_same1 a[i] b[i]) (by simp only [V.dats, datI, Bool.and_self]) ?_⟩
      by_cases he : a[i] = b[i]
      · have eb : (a[i] == b[i]) = true := by simpa using he
        simp only [sz.down, ↓reduceIte, Nat.reduceEqDiff, Nat.reduceLT, TEP, eb, h17, wrap_succ (show i < maxLen by omega)]
        exact .inl ⟨m - 1, by omega, i + 1, by omega, h0, h1, h2, h15, h16, rfl, hd, take_eq hall (by omega) (by omega) he⟩
      · have eb : (a[i] == b[i]) = false := by simpa using he
        simp only [sz.down, ↓reduceIte, Nat.reduceLT, TEP, eb, hd]
        refine Reif.eq rfl ?_
        have : ¬ a = b := fun h => by subst h; exact he rfl
        simp [this]
    · simp only [decide_eq_false_iff_not, Int.ofNat_lt] at hc
      simp only [sz.down, ↓reduceIte, Nat.reduceLT, TEP, hd]
      refine Reif.eq rfl ?_
      rw [List.take_of_length_le (by omega), List.take_of_length_le (by omega)] at hall
      simp [hall]

/-- An answer. -/
structure Ans where
  res : Int
  vals : List Bool
  conf : Int
  ln : List Cl
def Ans.v (a : Ans) : V := .agg [vi a.res, bools a.vals, vi a.conf, cls a.ln]
def sameB (a b : Ans) : Bool := (a.res == b.res) && ((a.conf == b.conf) && ((a.vals == b.vals) && (a.ln == b.ln)))

theorem ev_same (a b : Ans) : Ev TE 17 [a.v, b.v] (.bool (sameB a b)) := by
  unfold Ans.v
  refine Ev.of_awp Try.func17 rfl (by simp [nts]) (vc_ok mixed _ _ _ _ ?_)
  simp only [sz.down, ↓reduceIte, Nat.reduceEqDiff, Nat.reduceLT, Nat.reduceLeDiff, Nat.reduceAdd, TEP, tis, nts, Try.results17]
  refine effG.ev (q := 32) (vs := [bools a.vals, bools b.vals]) (by simp only [sz.down, ↓reduceIte, Nat.reduceEqDiff]) (by simp only [sz.down, ↓reduceIte, Nat.reduceEqDiff]) rfl (fun _ => ev_eqB a.vals b.vals) (fun _ => by simp only [V.dats, datBo, Bool.and_self]) ?_
  simp only [sz.down, ↓reduceIte, Nat.reduceEqDiff, Nat.reduceLT, Nat.reduceAdd, TEP, tis]
  refine effG.ev (q := 33) (vs := [cls a.ln, cls b.ln, .fn (.func 30) [] []]) (by simp only [sz.down, ↓reduceIte, Nat.reduceEqDiff]) (by simp only [sz.down, ↓reduceIte, Nat.reduceEqDiff]) rfl (fun _ => ev_eqF a.ln b.ln) (fun _ => by simp only [V.dats, V.dat, Bool.and_self]) ?_
  simp only [sz.down, ↓reduceIte, Nat.reduceEqDiff, Nat.reduceLT, TEP]
  refine Reif.eq rfl ?_
  simp [sameB, Bool.and_assoc]

theorem ev_rsame (a b : Ans) : Ev TE 11 [a.v, b.v] (.bool (sameB a b)) := by
  unfold Ans.v
  refine Ev.of_awp Try.func11 rfl (by simp [nts]) (vc_ok mixed _ _ _ _ ?_)
  simp only [sz.down, ↓reduceIte, Nat.reduceEqDiff, Nat.reduceLT, Nat.reduceLeDiff, Nat.reduceAdd, TEP, tis, nts, Try.results11]
  refine effG.ev (q := 26) (vs := [bools a.vals, bools b.vals]) (by simp only [sz.down, ↓reduceIte, Nat.reduceEqDiff]) (by simp only [sz.down, ↓reduceIte, Nat.reduceEqDiff]) rfl (fun _ => ev_bools8 a.vals b.vals) (fun _ => by simp only [V.dats, datBo, Bool.and_self]) ?_
  simp only [sz.down, ↓reduceIte, Nat.reduceEqDiff, Nat.reduceLT, Nat.reduceAdd, TEP, tis]
  refine effG.ev (q := 27) (vs := [cls a.ln, cls b.ln]) (by simp only [sz.down, ↓reduceIte, Nat.reduceEqDiff]) (by simp only [sz.down, ↓reduceIte, Nat.reduceEqDiff]) rfl (fun _ => ev_clauses a.ln b.ln) (fun _ => by simp only [V.dats, V.dat, Bool.and_self]) ?_
  simp only [sz.down, ↓reduceIte, Nat.reduceEqDiff, Nat.reduceLT, TEP]
  refine Reif.eq rfl ?_
  simp [sameB, Bool.and_assoc]

theorem ev_of (a : Ans) : Ev TE 12 [a.v] a.v := by
  unfold Ans.v
  refine Ev.of_awp Try.func12 rfl (by simp [nts]) (vc_ok mixed _ _ _ _ ?_)
  simp only [sz.down, ↓reduceIte, Nat.reduceEqDiff, Nat.reduceLT, Nat.reduceLeDiff, Nat.reduceAdd, reduceCtorEq, TEP, tis, nts, Try.results12]
  exact Reif.dat (by simp only [V.dat, V.dats, Bool.and_self])

end Go.Proofs.Ytajcfppemkdomaa

set_option linter.unusedVariables false
set_option linter.unusedSimpArgs false
set_option linter.unnecessarySimpa false
namespace Go.Proofs.Ytajcfppemkdomaa
open Go Go.Proofs Go.Abs

/-- Few variables: the search's counters stay small. -/
theorem big_few {n : Nat} {l : List Cl} {bud : Int} (hn : n ≤ 10) (hl : l.length ≤ 60) (hb : 0 ≤ bud) : Big n l bud 59049 := by
  have h3 : (3 : Nat) ^ n ≤ 3 ^ 10 := Nat.pow_le_pow_right (by decide) hn
  have h4 : (3 : Nat) ^ 10 = 59049 := by decide
  refine ⟨hb, fun S i _ => by have := i.g.few; omega, ?_, by omega, by omega⟩
  have : (n + 1) * (2 * 59049 + 4) ≤ 11 * (2 * 59049 + 4) := Nat.mul_le_mul_right _ (by omega)
  omega
theorem solve_few (l : List Cl) (vars budget : Int) (hl : l.length ≤ 60) (hc : ∀ c ∈ l, c.length ≤ 1000) (hv : vars ≤ 10 ∨ 20000 < vars) : EvR TE 9 [cls l, vi vars, vi budget] (SolveR l vars budget) := by
  refine solve_ev l vars budget hc fun hz => ⟨59049, ?_⟩
  obtain ⟨v1, v2, v3, v4⟩ := chk_vars hz
  exact big_few (by omega) hl (by omega)

theorem leadF_ok {l ln : List Cl} (h1 : ∀ m (hm : m < ln.length), Bad (l ++ ln.take m) (negs ln[m])) (h2 : Bad (l ++ ln) []) : leadF l ln = true := by
  rw [leadF_take (Nat.le_refl _) fun k hk _ => badB_true (h1 k hk), List.take_length, List.drop_length]
  exact badB_true h2
theorem ok_unsat {l : List Cl} {n : Nat} {bud res : Int} {vals : List Bool} {ln : List Cl} (ok : SolveOk l n bud res vals ln) (hr : res = 0) (hl : Lits l) (hn : n ≤ 20000) (vs : List Bool) : sat l vs = false := by
  obtain ⟨h1, h2, h3, h4, h5⟩ := ok
  rcases h5 with ⟨_, _, hb⟩ | ⟨e, _⟩ | ⟨e, _⟩
  · refine leads_unsat hl (fun c hc a ha => ?_) (leadF_ok h2 hb)
    have := (h3 c hc).2.2 a ha
    omega
  · omega
  · omega

/-- Where each clause has two literals nothing follows by itself. -/
theorem bad_two {l : List Cl} (h : ∀ c ∈ l, ∀ a : Int, ∃ b ∈ c, b ≠ a) : ¬ Bad l [] := by
  have hd : ∀ g a, Der l g a → g = [] → False := by
    intro g a hd
    induction hd with
    | start a ha => intro hg; rw [hg] at ha; cases ha
    | unit c a hc ha _ ih =>
      intro hg
      obtain ⟨b, hb, hne⟩ := h c hc a
      exact ih b hb hne hg
  rintro (⟨c, hc, hb⟩ | ⟨a, h1, _⟩)
  · obtain ⟨b, hb1, _⟩ := h c hc 0
    exact hd _ _ (hb b hb1) rfl
  · exact hd _ _ h1 rfl

def l3 : List Cl := [[1, 2], [-1], [-2]]
def l2 : List Cl := [[1, 2], [-1]]
def l4 : List Cl := [[1, 2], [1, -2], [-1, 2], [-1, -2]]
def l1 : List Cl := [[3]]
theorem two_vals {vs : List Bool} (h : vs.length = 2) : vs = [false, false] ∨ vs = [false, true] ∨ vs = [true, false] ∨ vs = [true, true] := by
  match vs, h with
  | [a, b], _ => cases a <;> cases b <;> simp
theorem lits_of {l : List Cl} (h : (l.all fun c => c.all fun b => decide (-20000 ≤ b) && (decide (b ≤ 20000) && decide (b ≠ 0))) = true) : Lits l := fun c hc b hb => by
  have := List.all_eq_true.1 (List.all_eq_true.1 h c hc) b hb
  simpa using this

theorem sol_a {r : V} (h : SolveR l3 2 100 r) : ∃ a : Ans, r = .tup [a.v, vi 0] ∧ a.res = 0 := by
  rcases h with ⟨h, _⟩ | ⟨_, res, vals, ln, rfl, ok⟩
  · exact absurd (by decide) h
  refine ⟨⟨res, vals, ln.length, ln⟩, rfl, ?_⟩
  obtain ⟨h1, h2, h3, h4, h5⟩ := ok
  rcases h5 with ⟨e, _⟩ | ⟨_, e1, e2⟩ | ⟨_, _, e⟩
  · exact e
  · rcases two_vals e1 with rfl | rfl | rfl | rfl <;> exact absurd e2 (by decide)
  · have : ln.length + 1 ≤ 9 := h4
    have e : (ln.length : Int) = 100 := e
    omega
theorem sol_b {r : V} (h : SolveR l2 2 100 r) : ∃ a : Ans, r = .tup [a.v, vi 0] ∧ a.res = 1 ∧ a.vals = [false, true] := by
  rcases h with ⟨h, _⟩ | ⟨_, res, vals, ln, rfl, ok⟩
  · exact absurd (by decide) h
  refine ⟨⟨res, vals, ln.length, ln⟩, rfl, ?_⟩
  have hun := fun hr => ok_unsat ok hr (lits_of (by decide)) (by decide) [false, true]
  obtain ⟨h1, h2, h3, h4, h5⟩ := ok
  rcases h5 with ⟨e, _⟩ | ⟨e, e1, e2⟩ | ⟨_, _, e⟩
  · exact absurd (hun e) (by decide)
  · refine ⟨e, ?_⟩
    rcases two_vals e1 with rfl | rfl | rfl | rfl <;> first | rfl | exact absurd e2 (by decide)
  · have : ln.length + 1 ≤ 9 := h4
    have e : (ln.length : Int) = 100 := e
    omega
theorem bad4 : ¬ Bad l4 [] := bad_two fun c hc a => by
  simp only [l4, List.mem_cons, List.not_mem_nil, or_false] at hc
  rcases hc with rfl | rfl | rfl | rfl
  · by_cases h : (1 : Int) = a
    · exact ⟨2, by simp, by omega⟩
    · exact ⟨1, by simp, h⟩
  · by_cases h : (1 : Int) = a
    · exact ⟨-2, by simp, by omega⟩
    · exact ⟨1, by simp, h⟩
  · by_cases h : (-1 : Int) = a
    · exact ⟨2, by simp, by omega⟩
    · exact ⟨-1, by simp, h⟩
  · by_cases h : (-1 : Int) = a
    · exact ⟨-2, by simp, by omega⟩
    · exact ⟨-1, by simp, h⟩
theorem sol_c {r : V} (h : SolveR l4 2 0 r) : ∃ a : Ans, r = .tup [a.v, vi 0] ∧ a.res = 2 ∧ a.conf = 0 := by
  rcases h with ⟨h, _⟩ | ⟨_, res, vals, ln, rfl, ok⟩
  · exact absurd (by decide) h
  refine ⟨⟨res, vals, ln.length, ln⟩, rfl, ?_⟩
  obtain ⟨h1, h2, h3, h4, h5⟩ := ok
  have h1 : (ln.length : Int) ≤ 0 := h1
  have hln : ln = [] := List.length_eq_zero_iff.1 (by omega)
  subst hln
  rcases h5 with ⟨_, _, e⟩ | ⟨_, e1, e2⟩ | ⟨e, _⟩
  · exact absurd e bad4
  · rcases two_vals e1 with rfl | rfl | rfl | rfl <;> exact absurd e2 (by decide)
  · exact ⟨e, rfl⟩
theorem sol_d {r : V} (h : SolveR l4 2 9 r) : ∃ a : Ans, r = .tup [a.v, vi 0] ∧ a.res = 0 ∧ 0 < a.conf := by
  rcases h with ⟨h, _⟩ | ⟨_, res, vals, ln, rfl, ok⟩
  · exact absurd (by decide) h
  refine ⟨⟨res, vals, ln.length, ln⟩, rfl, ?_⟩
  obtain ⟨h1, h2, h3, h4, h5⟩ := ok
  rcases h5 with ⟨e, _, eb⟩ | ⟨_, e1, e2⟩ | ⟨_, _, e⟩
  · refine ⟨e, ?_⟩
    show (0 : Int) < (ln.length : Int)
    by_cases hz : ln = []
    · subst hz; exact absurd eb bad4
    · have := List.length_pos_iff.2 hz; omega
  · rcases two_vals e1 with rfl | rfl | rfl | rfl <;> exact absurd e2 (by decide)
  · have : ln.length + 1 ≤ 9 := h4
    have e : (ln.length : Int) = 9 := e
    omega
theorem sol_e {r : V} (h : SolveR l1 2 9 r) : ∃ a : Ans, r = .tup [a.v, vi 1] := by
  rcases h with ⟨_, rfl⟩ | ⟨h, _⟩
  · exact ⟨⟨0, [], 0, []⟩, rfl⟩
  · exact absurd h (by decide)

end Go.Proofs.Ytajcfppemkdomaa

set_option linter.unusedVariables false
set_option linter.unusedSimpArgs false
set_option linter.unnecessarySimpa false
namespace Go.Proofs.Ytajcfppemkdomaa
open Go Go.Proofs Go.Abs

def VLeAll : List V → List V → Prop
  | [], [] => True
  | v :: vs, u :: us => VLe v u ∧ VLeAll vs us
  | _, _ => False
theorem velems_le {c : C} {k : Nat} : ∀ {es es' : List V} {b off : Nat}, VLeAll es es' → VElems c k es b off → VElems c k es' b off
  | [], [], _, _, _, _ => by simp only [VElems]
  | v :: vs, u :: us, b, off, h, hv => by
    simp only [VElems] at hv ⊢
    obtain ⟨⟨ev, h1, h2, h3⟩, h4⟩ := hv
    exact ⟨⟨ev, h1, h2, h.1 _ _ h3⟩, velems_le h.2 h4⟩
  | [], _ :: _, _, _, h, _ => h.elim
  | _ :: _, [], _, _, h, _ => h.elim
theorem VLeAll.length : ∀ {es es' : List V}, VLeAll es es' → es.length = es'.length
  | [], [], _ => rfl
  | _ :: vs, _ :: us, h => by simp only [List.length_cons, VLeAll.length h.2]
  | [], _ :: _, h => h.elim
  | _ :: _, [], h => h.elim
theorem VLe.is {x : Bool} {k : Nat} {es es' : List V} (h : VLeAll es es') : VLe (.is x k es) (.is false k es') := by
  intro c y hv
  simp only [VRel] at hv ⊢
  obtain ⟨a, cp, h1, h2, h3, h4, h5⟩ := hv
  have hl := h.length
  refine ⟨a, cp, by rw [h1, hl], by omega, h3, fun hf => (by cases hf), ?_⟩
  rcases h5 with rfl | ⟨b, off, h6, h7⟩
  · exact .inl (List.length_eq_zero_iff.1 (by simpa using hl.symm))
  · exact .inr ⟨b, off, h6, velems_le h h7⟩


abbrev xI (c : Cl) : V := .is true 1 (c.map vi)
theorem leX : ∀ {l : List Cl}, VLeAll (l.map xI) (l.map fun c => ints c)
  | [] => trivial
  | c :: l => ⟨VLe.exact, leX⟩
theorem leS {x : Bool} {l : List Cl} {v w : V} : VLes [.is x 1 (l.map xI), v, w] [cls l, v, w] := VLes.cons (VLe.is leX) (VLes.refl _)
theorem EvR.le {g : FuncId} {args args' : List V} {S : V → Prop} (h : VLes args args') (hv : EvR TE g args' S) : EvR TE g args S :=
  fun ok w vs hs hl => hv ok w vs hs (h _ _ hl)
theorem castn : ((1 : Nat) : Int) = 1 ∧ ((2 : Nat) : Int) = 2 ∧ ((3 : Nat) : Int) = 3 := ⟨rfl, rfl, rfl⟩
theorem rng : (([] : List Nat) = List.range 0) = True ∧ ([0] = List.range 1) = True ∧ ([0, 1] = List.range 2) = True ∧ ([0, 1, 2] = List.range 3) = True ∧ ([0, 1, 2, 3] = List.range 4) = True := by
  refine ⟨?_, ?_, ?_, ?_, ?_⟩ <;> exact eq_true (by decide)
theorem lub7 : lubV 7 = 4 := by decide
theorem lub8 : lubV 8 = 1 := by decide

set_option maxRecDepth 100000 in
set_option maxHeartbeats 16000000 in
theorem ev_works : Ev TE 7 [] (.bool true) := by
  refine Ev.of_awp Try.func7 rfl (by simp [nts]) (vc_ok mixed _ _ _ _ ?_)
  simp only [sz.down, ↓reduceIte, Nat.reduceEqDiff, Nat.reduceLT, Nat.reduceLeDiff, Int.reduceNeg, reduceCtorEq, Nat.reduceMul, TEP, tis, ens, nts, Try.results7, rng, Nat.reducePow]
  refine ACalls.evR (EvR.le (leS (l := l3)) (solve_few l3 2 100 (by decide) (by decide) (by decide))) rfl fun r hr => ?_
  obtain ⟨a, rfl, ha⟩ := sol_a hr
  unfold Ans.v
  simp only [sz.down, ↓reduceIte, Nat.reduceEqDiff, Nat.reduceLT, Nat.reduceLeDiff, Nat.reduceAdd, Int.reduceNeg, reduceCtorEq, Nat.reduceMul, TEP, tis, ens, rng, Nat.reducePow]
  refine ACalls.evR (EvR.le (leS (l := l2)) (solve_few l2 2 100 (by decide) (by decide) (by decide))) rfl fun r hr => ?_
  obtain ⟨b, rfl, hb, hbv⟩ := sol_b hr
  unfold Ans.v
  simp only [sz.down, ↓reduceIte, Nat.reduceEqDiff, Nat.reduceLT, Nat.reduceLeDiff, Nat.reduceAdd, Int.reduceNeg, reduceCtorEq, Nat.reduceMul, TEP, tis, ens, rng, Nat.reducePow]
  refine ACalls.evR (EvR.le (leS (l := l4)) (solve_few l4 2 0 (by decide) (by decide) (by decide))) rfl fun r hr => ?_
  obtain ⟨c, rfl, hc, hcc⟩ := sol_c hr
  unfold Ans.v
  simp only [sz.down, ↓reduceIte, Nat.reduceEqDiff, Nat.reduceLT, Nat.reduceLeDiff, Nat.reduceAdd, Int.reduceNeg, reduceCtorEq, Nat.reduceMul, TEP, tis, ens, rng, Nat.reducePow]
  refine ACalls.evR (EvR.le (leS (l := l4)) (solve_few l4 2 9 (by decide) (by decide) (by decide))) rfl fun r hr => ?_
  obtain ⟨d, rfl, hd, hdc⟩ := sol_d hr
  unfold Ans.v
  simp only [sz.down, ↓reduceIte, Nat.reduceEqDiff, Nat.reduceLT, Nat.reduceLeDiff, Nat.reduceAdd, Int.reduceNeg, reduceCtorEq, Nat.reduceMul, TEP, tis, ens, rng, Nat.reducePow]
  refine ACalls.evR (EvR.le (leS (l := l1)) (solve_few l1 2 9 (by decide) (by decide) (by decide))) rfl fun r hr => ?_
  obtain ⟨e, rfl⟩ := sol_e hr
  unfold Ans.v
  have hdc2 : decide (0 < d.conf) = true := decide_eq_true hdc
  have hab : sameB a b = false := by simp [sameB, ha, hb]
  have hdd : sameB d d = true := by simp [sameB]
  simp only [sz.down, ↓reduceIte, Nat.reduceEqDiff, Nat.reduceLT, Nat.reduceLeDiff, Nat.reduceAdd, Int.reduceToNat, Int.reduceLT, Int.reduceLE, Int.reduceNeg, Int.reduceBNe, reduceCtorEq, TEP, tis, ens, castn, ha, hb, hbv, hc, hcc, hd, hdc2]
  refine ACalls.ev (luby_ev 7) rfl ?_
  rw [lub7]
  simp only [sz.down, ↓reduceIte, Nat.reduceEqDiff, Nat.reduceLT, Int.reduceNeg, reduceCtorEq, TEP, ens]
  refine ACalls.ev (luby_ev 8) rfl ?_
  rw [lub8]
  simp only [sz.down, ↓reduceIte, Nat.reduceEqDiff, Nat.reduceLT, Nat.reduceAdd, Int.reduceNeg, reduceCtorEq, TEP, tis, ens]
  have s1 := ev_same d d
  unfold Ans.v at s1
  rw [hd, hdd] at s1
  have s2 := ev_same a b
  unfold Ans.v at s2
  rw [ha, hb, hbv, hab] at s2
  have dd : ∀ (x : Ans) (r : Int) (vs : List Bool) (k : Int), V.dat (.agg [vi r, bools vs, vi k, cls x.ln]) = true := fun x r vs k => by simp only [V.dat, V.dats, Bool.and_self]
  refine ACalls.ev s1 (by simp only [V.dats, dd, Bool.and_self]) ?_
  simp only [sz.down, ↓reduceIte, Nat.reduceEqDiff, Nat.reduceLT, Nat.reduceAdd, Int.reduceNeg, reduceCtorEq, TEP, tis, ens]
  refine ACalls.ev s2 (by simp only [V.dats, dd, Bool.and_self]) ?_
  simp only [sz.down, ↓reduceIte, Nat.reduceEqDiff, Nat.reduceLT, Int.reduceNeg, reduceCtorEq, TEP]
  exact Reif.dat rfl

end Go.Proofs.Ytajcfppemkdomaa
