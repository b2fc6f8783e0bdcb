/- Functions of the program, part 01. -/
import Derived.Test.YtajcfppemkdomaaP0
set_option linter.unusedVariables false
set_option linter.unusedSimpArgs false
set_option linter.unnecessarySimpa false
namespace Go.Proofs.Ytajcfppemkdomaa
open Go Go.Proofs Go.Abs

abbrev Cl := List Int
abbrev vi (n : Int) : V := .int .i64 n
abbrev ints (c : Cl) : V := .is false 1 (c.map vi)
abbrev cls (l : List Cl) : V := .is false 1 (l.map fun c => ints c)

theorem ints_len {l : Cl} {r : List V} (hb : V.bnds (ints l :: r)) : l.length ≤ maxLen := by
  simp only [V.bnds, V.bnd, List.length_map] at hb
  exact hb.1.1
theorem cls_len {l : List Cl} {r : List V} (hb : V.bnds (cls l :: r)) : l.length ≤ maxLen := by
  simp only [V.bnds, V.bnd, List.length_map] at hb
  exact hb.1.1
theorem mem_bnds {v : V} : ∀ {vs : List V}, V.bnds vs → v ∈ vs → v.bnd
  | x :: xs, hb, hm => by
    simp only [V.bnds] at hb
    cases hm with
    | head => exact hb.1
    | tail _ h => exact mem_bnds hb.2 h
theorem cls_each {l : List Cl} {r : List V} (hb : V.bnds (cls l :: r)) : ∀ c ∈ l, c.length ≤ maxLen := by
  intro c hc
  simp only [V.bnds, V.bnd] at hb
  have := mem_bnds hb.1.2 (List.mem_map.2 ⟨c, hc, rfl⟩)
  simp only [V.bnd, List.length_map] at this
  exact this.1
theorem getI {l : Cl} {i : Nat} (h : i < l.length) (d : V) : (List.map vi l).getD i d = vi l[i] := getD_map h _
theorem getC {l : List Cl} {i : Nat} (h : i < l.length) (d : V) : (List.map (fun c => ints c) l).getD i d = ints l[i] := getD_map h _

/-- Clauses so few and so short. -/
def fewC (n : Nat) (l : List Cl) : Bool := decide (l.length ≤ n) && l.all fun s => decide (s.length ≤ 30)

theorem ev_few (l : List Cl) (n : Nat) : Ev TE 8 [cls l, .int .i64 n] (.bool (fewC n l)) := by
  refine Ev.bnd fun hb => ?_
  have hlen := cls_len hb
  refine Ev.of_awp Try.func8 rfl (by simp [nts]) (vc_ok mixed _ _ _ _ ?_)
  simp only [sz.down, Nat.reduceLT, TEP, nts, Try.results8]
  refine awp_loop (fun m f h => ∃ i, m + i = l.length ∧ f.t 0 = cls l ∧ f.t 1 = .int .i64 n ∧ f.t 5 = .int .i64 (i : Int) ∧ f.d = [] ∧ ∀ s ∈ l.take i, s.length ≤ 30) l.length ⟨0, by simp, rfl, rfl, rfl, rfl, by simp⟩ ?_
  rintro m f h ⟨i, hm, h0, h1, h5, hd, hall⟩
  refine vc_ok mixed _ _ _ _ ?_
  simp only [sz.down, ↓reduceIte, Nat.reduceEqDiff, Nat.reduceLT, reduceCtorEq, TEP, tis, h0, h1, h5]
  refine vcB.mk (fun hc => ?_) (fun hc => ?_)
  · simp only [Bool.and_eq_true, decide_eq_true_eq, Int.ofNat_lt, Int.ofNat_le] at hc
    obtain ⟨hc1, hc2⟩ := hc
    simp only [sz.down, ↓reduceIte, Nat.reduceEqDiff, Nat.reduceLT, reduceCtorEq, TEP, tis, h0, h5, getC hc1]
    refine ⟨⟨by omega, by omega⟩, vcB.mk (fun hc => ?_) (fun hc => ?_)⟩
    · simp only [sz.down, ↓reduceIte, Nat.reduceLT, TEP, hd]
      have : fewC n l = false := by
        simp only [decide_eq_true_eq] at hc
        have hx : ∃ x ∈ l, ¬ x.length ≤ 30 := ⟨l[i], List.getElem_mem _, by omega⟩
        simpa [fewC] using fun _ => hx
      rw [this]
      exact Reif.dat rfl
    · simp only [sz.down, ↓reduceIte, Nat.reduceEqDiff, Nat.reduceLT, TEP, h5, wrap_succ (show i < maxLen by omega)]
      refine .inl ⟨m - 1, by omega, i + 1, by omega, h0, h1, rfl, hd, ?_⟩
      simp only [decide_eq_false_iff_not] at hc
      intro s hs
      rw [List.take_add_one] at hs
      simp only [hc1, List.getElem?_eq_getElem, Option.toList_some, List.mem_append, List.mem_singleton] at hs
      rcases hs with hs | rfl
      · exact hall s hs
      · omega
  · simp only [sz.down, ↓reduceIte, Nat.reduceEqDiff, Nat.reduceLT, reduceCtorEq, TEP, tis, h0, h1, hd]
    have : (decide ((l.length : Int) ≤ n)) = fewC n l := by
      simp only [Bool.and_eq_false_iff, decide_eq_false_iff_not, Int.ofNat_lt, Int.ofNat_le] at hc
      by_cases hi : i < l.length
      · have h2 : ¬ l.length ≤ n := by omega
        simp [fewC, h2]
      · rw [List.take_of_length_le (by omega)] at hall
        have : (l.all fun s => decide (s.length ≤ 30)) = true := by simpa using hall
        simp [fewC, this]
    rw [this]
    exact Reif.dat rfl

/-- Is it a literal? -/
def lit (vars a : Int) : Bool := decide (a ≠ 0) && (decide (-vars ≤ a) && decide (a ≤ vars))

theorem wrapn {n : Int} (h1 : -9223372036854775808 ≤ n) (h2 : n ≤ 9223372036854775807) : IntKind.i64.wrap n = n := wrap64 h1 (by omega)

theorem ev_literal (a vars : Int) (h0 : 0 ≤ vars) (h1 : vars ≤ 20000) : Ev TE 25 [vi a, vi vars] (.bool (lit vars a)) := by
  refine Ev.of_awp Try.func25 rfl (by simp [nts]) (vc_ok mixed _ _ _ _ ?_)
  simp only [sz.down, ↓reduceIte, Nat.reduceEqDiff, Nat.reduceLT, reduceCtorEq, TEP, nts, Try.results25]
  refine Reif.eq rfl ?_
  rw [wrapn (n := 0 - vars) (by omega) (by omega), Int.zero_sub]
  simp only [lit]
  by_cases ha : a = 0
  · subst ha; simp
  · have hb : (a != 0) = true := bne_iff_ne.2 ha
    simp [ha, hb]

theorem mem_take_succ {α : Type} {l : List α} {i : Nat} (h : i < l.length) {P : α → Prop} (h1 : ∀ s ∈ l.take i, P s) (h2 : P l[i]) : ∀ s ∈ l.take (i + 1), P s := by
  intro s hs
  rw [List.take_add_one] at hs
  simp only [h, List.getElem?_eq_getElem, Option.toList_some, List.mem_append, List.mem_singleton] at hs
  rcases hs with hs | rfl
  · exact h1 s hs
  · exact h2
theorem all_mem {α : Type} {l : List α} {i : Nat} {p : α → Bool} (h : ∀ s ∈ l.take i, p s = true) (hi : ¬ i < l.length) : l.all p = true := by
  rw [List.take_of_length_le (by omega)] at h
  exact List.all_eq_true.2 h
theorem not_all {α : Type} {l : List α} {i : Nat} {p : α → Bool} (hi : i < l.length) (h : p l[i] = false) : l.all p = false := by
  rw [List.all_eq_false]
  exact ⟨l[i], List.getElem_mem _, by simp [h]⟩

theorem ev_literals (c : Cl) (vars : Int) (h0 : 0 ≤ vars) (h1 : vars ≤ 20000) : Ev TE 53 [ints c, vi vars] (.bool (c.all (lit vars))) := by
  refine Ev.bnd fun hb => ?_
  have hlen := ints_len hb
  refine Ev.of_awp Try.func53 rfl (by simp [nts]) (vc_ok mixed _ _ _ _ ?_)
  simp only [sz.down, Nat.reduceLT, TEP, nts, Try.results53]
  refine awp_loop (fun m f h => ∃ i, m + i = c.length ∧ f.t 0 = ints c ∧ f.t 1 = vi vars ∧ f.t 5 = .int .i64 (i : Int) ∧ f.d = [] ∧ ∀ x ∈ c.take i, lit vars x = true) c.length ⟨0, by simp, rfl, rfl, rfl, rfl, by simp⟩ ?_
  rintro m f h ⟨i, hm, h0', h1', h5, hd, hall⟩
  refine vc_ok mixed _ _ _ _ ?_
  simp only [sz.down, ↓reduceIte, Nat.reduceEqDiff, Nat.reduceLT, reduceCtorEq, TEP, tis, h0', h5]
  refine vcB.mk (fun hc => ?_) (fun hc => ?_)
  · simp only [decide_eq_true_eq, Int.ofNat_lt] at hc
    simp only [sz.down, ↓reduceIte, Nat.reduceEqDiff, Nat.reduceLT, reduceCtorEq, TEP, tis, ens, h0', h1', h5, getI hc]
    refine ⟨⟨by omega, by omega⟩, ACalls.ev (ev_literal c[i] vars h0 h1) rfl ?_⟩
    simp only [sz.down, ↓reduceIte, Nat.reduceLT, TEP]
    refine vcB.mk (fun hc' => ?_) (fun hc' => ?_)
    · simp only [sz.down, ↓reduceIte, Nat.reduceLT, TEP, hd]
      rw [not_all hc (by simpa using hc')]
      exact Reif.dat rfl
    · simp only [sz.down, ↓reduceIte, Nat.reduceEqDiff, Nat.reduceLT, TEP, h5, wrap_succ (show i < maxLen by omega)]
      exact .inl ⟨m - 1, by omega, i + 1, by omega, h0', h1', rfl, hd, mem_take_succ hc hall (by simpa using hc')⟩
  · simp only [decide_eq_false_iff_not, Int.ofNat_lt] at hc
    simp only [sz.down, ↓reduceIte, Nat.reduceLT, TEP, hd]
    rw [all_mem hall hc]
    exact Reif.dat rfl

/-- May clauses be asked? -/
def chk (l : List Cl) (vars : Int) : Int :=
  if (decide (vars < 0) || decide (20000 < vars) || decide (100000 < l.length)) = true then 8
  else if (l.all fun c => c.all (lit vars)) = true then 0 else 1

theorem chk_lim {l : List Cl} {vars : Int} (h : (decide (vars < 0) || decide (20000 < vars) || decide (100000 < (l.length : Int))) = true) : chk l vars = 8 := by
  unfold chk
  rw [if_pos]
  simp only [Bool.or_eq_true, decide_eq_true_eq] at h ⊢
  omega
theorem chk_rest {l : List Cl} {vars : Int} (h : (decide (vars < 0) || decide (20000 < vars) || decide (100000 < (l.length : Int))) = false) :
    0 ≤ vars ∧ vars ≤ 20000 ∧ chk l vars = if (l.all fun c => c.all (lit vars)) = true then 0 else 1 := by
  simp only [Bool.or_eq_false_iff, decide_eq_false_iff_not] at h
  refine ⟨by omega, by omega, ?_⟩
  unfold chk
  rw [if_neg]
  simp only [Bool.or_eq_true, decide_eq_true_eq]
  omega

theorem ev_rcheck (l : List Cl) (vars : Int) : Ev TE 10 [cls l, vi vars] (vi (chk l vars)) := by
  refine Ev.bnd fun hb => ?_
  have hlen := cls_len hb
  have heach := cls_each hb
  refine Ev.of_awp Try.func10 rfl (by simp [nts]) (vc_ok mixed _ _ _ _ ?_)
  simp only [sz.down, ↓reduceIte, Nat.reduceEqDiff, Nat.reduceLT, reduceCtorEq, TEP, tis, nts, Try.results10]
  refine vcB.mk (fun hc => ?_) (fun hc => ?_)
  · simp only [sz.down, ↓reduceIte, Nat.reduceLT, TEP]
    exact Reif.eq rfl (by rw [chk_lim]; simpa [Bool.or_assoc] using hc)
  · obtain ⟨hv0, hv1, hr⟩ := chk_rest (l := l) (vars := vars) (by simpa [Bool.or_assoc] using hc)
    rw [hr]
    simp only [sz.down, Nat.reduceLT, TEP]
    refine awp_loop (fun m f h => ∃ i, m + i = l.length ∧ f.t 0 = cls l ∧ f.t 1 = vi vars ∧ f.t 5 = .int .i64 (i : Int) ∧ f.d = [] ∧ ∀ c ∈ l.take i, c.all (lit vars) = true) l.length ⟨0, by simp, rfl, rfl, rfl, rfl, by simp⟩ ?_
    rintro m f h ⟨i, hm, h0, h1, h5, hd, hall⟩
    refine vc_ok mixed _ _ _ _ ?_
    simp only [sz.down, ↓reduceIte, Nat.reduceEqDiff, Nat.reduceLT, reduceCtorEq, TEP, tis, h0, h5]
    refine vcB.mk (fun hc => ?_) (fun hc => ?_)
    · simp only [decide_eq_true_eq, Int.ofNat_lt] at hc
      have hci : l[i].length ≤ maxLen := heach _ (List.getElem_mem _)
      simp only [sz.down, Nat.reduceLT, TEP]
      refine awp_loop (fun m2 f h => ∃ k, m2 + k = l[i].length ∧ f.t 0 = cls l ∧ f.t 1 = vi vars ∧ f.t 5 = .int .i64 (i : Int) ∧ f.t 6 = .int .i64 (k : Int) ∧ f.d = [] ∧ ∀ x ∈ l[i].take k, lit vars x = true) l[i].length ⟨0, by simp, h0, h1, h5, rfl, hd, by simp⟩ ?_
      rintro m2 f h ⟨k, hm2, h0, h1, h5, h6, hd, hall2⟩
      refine vc_ok mixed _ _ _ _ ?_
      simp only [sz.down, ↓reduceIte, Nat.reduceEqDiff, Nat.reduceLT, reduceCtorEq, TEP, tis, h0, h5, h6, getC hc]
      refine ⟨⟨by omega, by omega⟩, vcB.mk (fun hc2 => ?_) (fun hc2 => ?_)⟩
      · simp only [decide_eq_true_eq, Int.ofNat_lt] at hc2
        simp only [sz.down, ↓reduceIte, Nat.reduceEqDiff, Nat.reduceLT, reduceCtorEq, TEP, tis, ens, h0, h1, h5, h6, getC hc, getI hc2]
        refine ⟨⟨by omega, by omega⟩, ⟨by omega, by omega⟩, ACalls.ev (ev_literal l[i][k] vars hv0 hv1) rfl ?_⟩
        simp only [sz.down, ↓reduceIte, Nat.reduceLT, TEP]
        refine vcB.mk (fun hc' => ?_) (fun hc' => ?_)
        · simp only [sz.down, ↓reduceIte, Nat.reduceLT, TEP, hd]
          have : (l.all fun c => c.all (lit vars)) = false := not_all hc (not_all hc2 (by simpa using hc'))
          rw [this]
          exact Reif.dat rfl
        · simp only [sz.down, ↓reduceIte, Nat.reduceEqDiff, Nat.reduceLT, TEP, h6, wrap_succ (show k < maxLen by omega)]
          exact .inl ⟨m2 - 1, by omega, k + 1, by omega, h0, h1, h5, rfl, hd, mem_take_succ hc2 hall2 (by simpa using hc')⟩
      · simp only [decide_eq_false_iff_not, Int.ofNat_lt] at hc2
        simp only [sz.down, ↓reduceIte, Nat.reduceEqDiff, Nat.reduceLT, TEP, h5, wrap_succ (show i < maxLen by omega)]
        exact .inl ⟨m - 1, by omega, i + 1, by omega, h0, h1, rfl, hd, mem_take_succ hc hall (all_mem hall2 hc2)⟩
    · simp only [decide_eq_false_iff_not, Int.ofNat_lt] at hc
      simp only [sz.down, ↓reduceIte, Nat.reduceLT, TEP, hd]
      rw [all_mem hall hc]
      exact Reif.dat rfl

end Go.Proofs.Ytajcfppemkdomaa

set_option linter.unusedVariables false
set_option linter.unusedSimpArgs false
set_option linter.unnecessarySimpa false
namespace Go.Proofs.Ytajcfppemkdomaa
open Go Go.Proofs Go.Abs

theorem take_eq {α : Type} {a b : List α} {i : Nat} (h : a.take i = b.take i) (ha : i < a.length) (hb : i < b.length) (he : a[i] = b[i]) : a.take (i + 1) = b.take (i + 1) := by
  rw [List.take_add_one, List.take_add_one, h]
  simp [ha, hb, he]

theorem ev_ints (a b : Cl) : Ev TE 51 [ints a, ints b] (.bool (a == b)) := by
  refine Ev.bnd fun hb => ?_
  have hlen := ints_len hb
  refine Ev.of_awp Try.func51 rfl (by simp [nts]) (vc_ok mixed _ _ _ _ ?_)
  simp only [sz.down, ↓reduceIte, Nat.reduceEqDiff, Nat.reduceLT, reduceCtorEq, TEP, tis, nts, Try.results51]
  refine vcB.mk (fun hc => ?_) (fun hc => ?_)
  · simp only [sz.down, ↓reduceIte, Nat.reduceLT, TEP]
    refine Reif.eq rfl ?_
    simp only [bne_iff_ne, ne_eq, Int.natCast_inj] at hc
    have : ¬ a = b := fun h => hc (by rw [h])
    simp [this]
  · have hl : a.length = b.length := by simpa [Int.natCast_inj] using hc
    simp only [sz.down, Nat.reduceLT, TEP]
    refine awp_loop (fun m f h => ∃ i, m + i = a.length ∧ f.t 0 = ints a ∧ f.t 1 = ints b ∧ f.t 5 = .int .i64 (i : Int) ∧ f.d = [] ∧ a.take i = b.take i) a.length ⟨0, by simp, rfl, rfl, rfl, rfl, by simp⟩ ?_
    rintro m f h ⟨i, hm, h0, h1, h5, hd, hall⟩
    refine vc_ok mixed _ _ _ _ ?_
    simp only [sz.down, ↓reduceIte, Nat.reduceEqDiff, Nat.reduceLT, reduceCtorEq, TEP, tis, h0, h5]
    refine vcB.mk (fun hc => ?_) (fun hc => ?_)
    · simp only [decide_eq_true_eq, Int.ofNat_lt] at hc
      have hc2 : i < b.length := by omega
      simp only [sz.down, ↓reduceIte, Nat.reduceEqDiff, Nat.reduceLT, reduceCtorEq, TEP, tis, h0, h1, h5, getI hc, getI hc2]
      refine ⟨by decide +kernel, ⟨by omega, by omega⟩, ⟨by omega, by omega⟩, vcB.mk (fun hc => ?_) (fun hc => ?_)⟩
      · simp only [sz.down, ↓reduceIte, Nat.reduceLT, TEP, hd]
        refine Reif.eq rfl ?_
        have : ¬ a = b := fun h => by subst h; simp at hc
        simp [this]
      · simp only [sz.down, ↓reduceIte, Nat.reduceEqDiff, Nat.reduceLT, TEP, h5, wrap_succ (show i < maxLen by omega)]
        exact .inl ⟨m - 1, by omega, i + 1, by omega, h0, h1, rfl, hd, take_eq hall (by omega) (by omega) (by simpa using hc)⟩
    · simp only [decide_eq_false_iff_not, Int.ofNat_lt] at hc
      simp only [sz.down, ↓reduceIte, Nat.reduceLT, TEP, hd]
      refine Reif.eq rfl ?_
      rw [List.take_of_length_le (by omega), List.take_of_length_le (by omega)] at hall
      simp [hall]

theorem ev_clauses (a b : List Cl) : Ev TE 27 [cls a, cls b] (.bool (a == b)) := by
  refine Ev.bnd fun hb => ?_
  have hlen := cls_len hb
  refine Ev.of_awp Try.func27 rfl (by simp [nts]) (vc_ok mixed _ _ _ _ ?_)
  simp only [sz.down, ↓reduceIte, Nat.reduceEqDiff, Nat.reduceLT, reduceCtorEq, TEP, tis, nts, Try.results27]
  refine vcB.mk (fun hc => ?_) (fun hc => ?_)
  · simp only [sz.down, ↓reduceIte, Nat.reduceLT, TEP]
    refine Reif.eq rfl ?_
    simp only [bne_iff_ne, ne_eq, Int.natCast_inj] at hc
    have : ¬ a = b := fun h => hc (by rw [h])
    simp [this]
  · have hl : a.length = b.length := by simpa [Int.natCast_inj] using hc
    simp only [sz.down, Nat.reduceLT, TEP]
    refine awp_loop (fun m f h => ∃ i, m + i = a.length ∧ f.t 0 = cls a ∧ f.t 1 = cls b ∧ f.t 5 = .int .i64 (i : Int) ∧ f.d = [] ∧ a.take i = b.take i) a.length ⟨0, by simp, rfl, rfl, rfl, rfl, by simp⟩ ?_
    rintro m f h ⟨i, hm, h0, h1, h5, hd, hall⟩
    refine vc_ok mixed _ _ _ _ ?_
    simp only [sz.down, ↓reduceIte, Nat.reduceEqDiff, Nat.reduceLT, reduceCtorEq, TEP, tis, h0, h5]
    refine vcB.mk (fun hc => ?_) (fun hc => ?_)
    · simp only [decide_eq_true_eq, Int.ofNat_lt] at hc
      have hc2 : i < b.length := by omega
      simp only [sz.down, ↓reduceIte, Nat.reduceEqDiff, Nat.reduceLT, reduceCtorEq, TEP, tis, h0, h1, h5, getC hc, getC hc2]
      refine ⟨by decide +kernel, ⟨by omega, by omega⟩, ⟨by omega, by omega⟩, vcEv.mk (ev_ints a[i] b[i]) rfl rfl ?_⟩
      simp only [sz.down, ↓reduceIte, Nat.reduceLT, TEP]
      refine vcB.mk (fun hc' => ?_) (fun hc' => ?_)
      · simp only [sz.down, ↓reduceIte, Nat.reduceLT, TEP, hd]
        refine Reif.eq rfl ?_
        have : ¬ a = b := fun h => by subst h; simp at hc'
        simp [this]
      · simp only [sz.down, ↓reduceIte, Nat.reduceEqDiff, Nat.reduceLT, TEP, h5, wrap_succ (show i < maxLen by omega)]
        exact .inl ⟨m - 1, by omega, i + 1, by omega, h0, h1, rfl, hd, take_eq hall (by omega) (by omega) (by simpa using hc')⟩
    · simp only [decide_eq_false_iff_not, Int.ofNat_lt] at hc
      simp only [sz.down, ↓reduceIte, Nat.reduceLT, TEP, hd]
      refine Reif.eq rfl ?_
      rw [List.take_of_length_le (by omega), List.take_of_length_le (by omega)] at hall
      simp [hall]

abbrev bools (l : List Bool) : V := .is false 1 (l.map V.bool)
theorem bools_len {l : List Bool} {r : List V} (hb : V.bnds (bools l :: r)) : l.length ≤ maxLen := by
  simp only [V.bnds, V.bnd, List.length_map] at hb
  exact hb.1.1
theorem getB {l : List Bool} {i : Nat} (h : i < l.length) (d : V) : (List.map V.bool l).getD i d = .bool l[i] := getD_map h _
theorem mem1 {r : List V} {l : Cl} {k : V} (hb : V.bnds (k :: ints l :: r)) : l.length ≤ maxLen := by
  simp only [V.bnds, V.bnd, List.length_map] at hb
  exact hb.2.1.1

theorem getD_at {α : Type} {l : List α} {i : Nat} {d : α} (h : i < l.length) : l.getD i d = l[i] := by simp [List.getD_eq_getElem?_getD, h]

/-- Does a literal hold? -/
def hol (vs : List Bool) (a : Int) : Bool := if a < 0 then !(vs.getD (-a - 1).toNat false) else vs.getD (a - 1).toNat false

theorem lit_rng {n a : Int} (h : lit n a = true) : a ≠ 0 ∧ -n ≤ a ∧ a ≤ n := by
  simpa [lit] using h

theorem ev_holds (a : Int) (vs : List Bool) (hn : vs.length ≤ 20000) (h : lit vs.length a = true) : Ev TE 70 [vi a, bools vs] (.bool (hol vs a)) := by
  obtain ⟨h0, h1, h2⟩ := lit_rng h
  refine Ev.of_awp Try.func70 rfl (by simp [nts]) (vc_ok mixed _ _ _ _ ?_)
  simp only [sz.down, ↓reduceIte, Nat.reduceLT, reduceCtorEq, TEP, nts, Try.results70]
  refine vcB.mk (fun hc => ?_) (fun hc => ?_)
  · have hc : a < 0 := by simpa using hc
    have e1 : IntKind.i64.wrap (0 - a) = -a := by rw [wrapn (by omega) (by omega)]; omega
    have e2 : IntKind.i64.wrap (-a - 1) = -a - 1 := wrapn (by omega) (by omega)
    have hi : (-a - 1).toNat < vs.length := by omega
    simp only [sz.down, ↓reduceIte, Nat.reduceEqDiff, Nat.reduceLT, reduceCtorEq, TEP, tis, e1, e2, getB hi]
    refine ⟨⟨by omega, by omega⟩, ?_⟩
    refine Reif.eq rfl ?_
    unfold hol
    rw [if_pos hc, getD_at hi]
  · have hc : ¬ a < 0 := by simpa using hc
    have e2 : IntKind.i64.wrap (a - 1) = a - 1 := wrapn (by omega) (by omega)
    have hi : (a - 1).toNat < vs.length := by omega
    simp only [sz.down, ↓reduceIte, Nat.reduceEqDiff, Nat.reduceLT, reduceCtorEq, TEP, tis, e2, getB hi]
    refine ⟨⟨by omega, by omega⟩, ?_⟩
    refine Reif.eq rfl ?_
    unfold hol
    rw [if_neg hc, getD_at hi]

theorem ev_rone (c : Cl) (vs : List Bool) (hn : vs.length ≤ 20000) (h : ∀ a ∈ c, lit vs.length a = true) : Ev TE 52 [ints c, bools vs] (.bool (c.any (hol vs))) := by
  refine Ev.bnd fun hb => ?_
  have hlen := ints_len hb
  refine Ev.of_awp Try.func52 rfl (by simp [nts]) (vc_ok mixed _ _ _ _ ?_)
  simp only [sz.down, Nat.reduceLT, TEP, nts, Try.results52]
  refine awp_loop (fun m f h => ∃ i, m + i = c.length ∧ f.t 0 = ints c ∧ f.t 1 = bools vs ∧ f.t 5 = .int .i64 (i : Int) ∧ f.d = [] ∧ ∀ x ∈ c.take i, hol vs x = false) c.length ⟨0, by simp, rfl, rfl, rfl, rfl, by simp⟩ ?_
  rintro m f h' ⟨i, hm, h0, h1, h5, hd, hall⟩
  refine vc_ok mixed _ _ _ _ ?_
  simp only [sz.down, ↓reduceIte, Nat.reduceEqDiff, Nat.reduceLT, reduceCtorEq, TEP, tis, h0, h5]
  refine vcB.mk (fun hc => ?_) (fun hc => ?_)
  · simp only [decide_eq_true_eq, Int.ofNat_lt] at hc
    simp only [sz.down, ↓reduceIte, Nat.reduceEqDiff, Nat.reduceLT, reduceCtorEq, TEP, tis, ens, h0, h1, h5, getI hc]
    refine ⟨⟨by omega, by omega⟩, ACalls.ev (ev_holds c[i] vs hn (h _ (List.getElem_mem _))) rfl ?_⟩
    simp only [sz.down, ↓reduceIte]
    refine vcB.mk (fun hc' => ?_) (fun hc' => ?_)
    · simp only [sz.down, ↓reduceIte, Nat.reduceLT, TEP, hd]
      have : c.any (hol vs) = true := List.any_eq_true.2 ⟨_, List.getElem_mem hc, hc'⟩
      rw [this]
      exact Reif.dat rfl
    · simp only [sz.down, ↓reduceIte, Nat.reduceEqDiff, Nat.reduceLT, TEP, h5, wrap_succ (show i < maxLen by omega)]
      exact .inl ⟨m - 1, by omega, i + 1, by omega, h0, h1, rfl, hd, mem_take_succ hc hall hc'⟩
  · simp only [decide_eq_false_iff_not, Int.ofNat_lt] at hc
    rw [List.take_of_length_le (by omega)] at hall
    simp only [sz.down, ↓reduceIte, Nat.reduceLT, TEP, hd]
    have : c.any (hol vs) = false := List.any_eq_false.2 fun x hx => by simp [hall x hx]
    rw [this]
    exact Reif.dat rfl

/-- Do values let clauses hold? -/
def sat (l : List Cl) (vs : List Bool) : Bool := l.all fun c => c.any (hol vs)

theorem ev_all (l : List Cl) (vs : List Bool) (hn : vs.length ≤ 20000) (h : ∀ c ∈ l, ∀ a ∈ c, lit vs.length a = true) : Ev TE 28 [cls l, bools vs] (.bool (sat l vs)) := by
  refine Ev.bnd fun hb => ?_
  have hlen := cls_len hb
  refine Ev.of_awp Try.func28 rfl (by simp [nts]) (vc_ok mixed _ _ _ _ ?_)
  simp only [sz.down, Nat.reduceLT, TEP, nts, Try.results28]
  refine awp_loop (fun m f h => ∃ i, m + i = l.length ∧ f.t 0 = cls l ∧ f.t 1 = bools vs ∧ f.t 5 = .int .i64 (i : Int) ∧ f.d = [] ∧ ∀ c ∈ l.take i, (c.any (hol vs)) = true) l.length ⟨0, by simp, rfl, rfl, rfl, rfl, by simp⟩ ?_
  rintro m f h' ⟨i, hm, h0, h1, h5, hd, hall⟩
  refine vc_ok mixed _ _ _ _ ?_
  simp only [sz.down, ↓reduceIte, Nat.reduceEqDiff, Nat.reduceLT, reduceCtorEq, TEP, tis, h0, h5]
  refine vcB.mk (fun hc => ?_) (fun hc => ?_)
  · simp only [decide_eq_true_eq, Int.ofNat_lt] at hc
    simp only [sz.down, ↓reduceIte, Nat.reduceEqDiff, Nat.reduceLT, reduceCtorEq, TEP, tis, ens, h0, h1, h5, getC hc]
    refine ⟨⟨by omega, by omega⟩, ACalls.ev (ev_rone l[i] vs hn (h _ (List.getElem_mem _))) rfl ?_⟩
    simp only [sz.down, ↓reduceIte, Nat.reduceLT, TEP]
    refine vcB.mk (fun hc' => ?_) (fun hc' => ?_)
    · simp only [sz.down, ↓reduceIte, Nat.reduceLT, TEP, hd]
      have : sat l vs = false := not_all hc (by simpa using hc')
      rw [this]
      exact Reif.dat rfl
    · simp only [sz.down, ↓reduceIte, Nat.reduceEqDiff, Nat.reduceLT, TEP, h5, wrap_succ (show i < maxLen by omega)]
      exact .inl ⟨m - 1, by omega, i + 1, by omega, h0, h1, rfl, hd, mem_take_succ hc hall (by simpa using hc')⟩
  · simp only [decide_eq_false_iff_not, Int.ofNat_lt] at hc
    simp only [sz.down, ↓reduceIte, Nat.reduceLT, TEP, hd]
    have : sat l vs = true := all_mem hall hc
    rw [this]
    exact Reif.dat rfl

/-- Does a literal hold in a row of signs? -/
def hld (on : Cl) (a : Int) : Bool := if a < 0 then on.getD (-a).toNat 0 == -1 else on.getD a.toNat 0 == 1

theorem ev_hold (on : Cl) (a : Int) (h1 : -(on.length : Int) < a) (h2 : a < on.length) : Ev TE 75 [ints on, vi a] (.bool (hld on a)) := by
  refine Ev.bnd fun hb => ?_
  have hlen := ints_len hb
  have hM : maxLen = 9223372036854775807 := rfl
  refine Ev.of_awp Try.func75 rfl (by simp [nts]) (vc_ok mixed _ _ _ _ ?_)
  simp only [sz.down, ↓reduceIte, Nat.reduceEqDiff, Nat.reduceLT, Int.reduceNeg, TEP, nts, Try.results75]
  refine vcB.mk (fun hc => ?_) (fun hc => ?_)
  · have hc : a < 0 := by simpa using hc
    have e1 : IntKind.i64.wrap (0 - a) = -a := by rw [wrapn (by omega) (by omega)]; omega
    have hi : (-a).toNat < on.length := by omega
    simp only [sz.down, ↓reduceIte, Nat.reduceEqDiff, Nat.reduceLT, Int.reduceNeg, reduceCtorEq, TEP, tis, e1, getI hi]
    refine ⟨⟨by omega, by omega⟩, ?_⟩
    refine Reif.eq rfl ?_
    unfold hld
    rw [if_pos hc]
    simp [hi]
  · have hc : ¬ a < 0 := by simpa using hc
    have hi : a.toNat < on.length := by omega
    simp only [sz.down, ↓reduceIte, Nat.reduceEqDiff, Nat.reduceLT, reduceCtorEq, TEP, tis, getI hi]
    refine ⟨⟨by omega, by omega⟩, ?_⟩
    refine Reif.eq rfl ?_
    unfold hld
    rw [if_neg hc]
    simp [hi]

end Go.Proofs.Ytajcfppemkdomaa

set_option linter.unusedVariables false
set_option linter.unusedSimpArgs false
set_option linter.unnecessarySimpa false
namespace Go.Proofs.Ytajcfppemkdomaa
open Go Go.Proofs Go.Abs

/-- The first place. -/
def idx {α : Type} (l : List α) (p : α → Bool) : Int := match l.findIdx? p with | some i => i | none => -1

theorem idx_some {α : Type} {l : List α} {p : α → Bool} {i : Nat} (h : i < l.length) (hn : ∀ x ∈ l.take i, p x = false) (hb : p l[i] = true) : idx l p = i := by
  have : l.findIdx? p = some i := by
    rw [List.findIdx?_eq_some_iff_getElem]
    refine ⟨h, hb, fun j hj => ?_⟩
    have : l[j] ∈ l.take i := by
      rw [List.mem_take_iff_getElem]
      exact ⟨j, by omega, rfl⟩
    simp [hn _ this]
  simp [idx, this]
theorem idx_none {α : Type} {l : List α} {p : α → Bool} (hn : ∀ x ∈ l, p x = false) : idx l p = -1 := by
  have : l.findIdx? p = none := by
    rw [List.findIdx?_eq_none_iff]
    simpa using hn
  simp [idx, this]
theorem idx_has {α : Type} (l : List α) (p : α → Bool) : decide (0 ≤ idx l p) = l.any p := by
  cases h : l.any p with
  | false =>
    rw [idx_none (by simpa using h)]
    rfl
  | true =>
    have : ∃ x ∈ l, p x = true := by simpa using h
    unfold idx
    cases hb : l.findIdx? p with
    | none =>
      obtain ⟨x, hx, hx2⟩ := this
      have := (List.findIdx?_eq_none_iff.1 hb) x hx
      simp [hx2] at this
    | some i => simp

theorem ev_ixI (c : Cl) (q : FuncId) (caps : List V) (p : Int → Bool) (he : enters P q = true) (hd : V.dats caps = true) (hq : ∀ x ∈ c, Ev TE q (vi x :: caps) (.bool (p x))) : Ev TE 61 [ints c, .fn (.func q) [] caps] (vi (idx c p)) := by
  refine Ev.bnd fun hb => ?_
  have hlen := ints_len hb
  refine Ev.of_awp Try.func61 rfl (by simp [nts]) (vc_ok mixed _ _ _ _ ?_)
  simp only [sz.down, ↓reduceIte, Nat.reduceLT, Int.reduceNeg, reduceCtorEq, TEP, tis, nts, Try.results61]
  refine awp_loop (fun m f h => ∃ i, m + i = c.length ∧ f.t 0 = ints c ∧ f.t 1 = .fn (.func q) [] caps ∧ f.t 7 = .int .i64 (c.length : Int) ∧ f.t 8 = .int .i64 (i : Int) ∧ f.d = [] ∧ ∀ x ∈ c.take i, p x = false) c.length ⟨0, by simp, rfl, rfl, rfl, rfl, rfl, by simp⟩ ?_
  rintro m f h ⟨i, hm, h0, h1, h7, h8, hdd, hall⟩
  refine vc_ok mixed _ _ _ _ ?_
  simp only [sz.down, ↓reduceIte, Nat.reduceLT, Int.reduceNeg, TEP, h7, h8]
  refine vcB.mk (fun hc => ?_) (fun hc => ?_)
  · simp only [decide_eq_true_eq, Int.ofNat_lt] at hc
    simp only [sz.down, ↓reduceIte, Nat.reduceEqDiff, Nat.reduceLT, Int.reduceNeg, reduceCtorEq, TEP, tis, h0, h1, h8, getI hc, he]
    refine ⟨⟨by omega, by omega⟩, ACalls.ev (hq _ (List.getElem_mem _)) (by simp [V.dats, V.dat, hd]) ?_⟩
    simp only [sz.down, ↓reduceIte, Int.reduceNeg]
    refine vcB.mk (fun hc' => ?_) (fun hc' => ?_)
    · simp only [sz.down, ↓reduceIte, Nat.reduceEqDiff, Nat.reduceLT, Int.reduceNeg, TEP, hdd]
      rw [idx_some hc hall hc']
      exact Reif.dat rfl
    · simp only [sz.down, ↓reduceIte, Nat.reduceEqDiff, Nat.reduceLT, Int.reduceNeg, TEP, h8, wrap_succ (show i < maxLen by omega)]
      exact .inl ⟨m - 1, by omega, i + 1, by omega, h0, h1, h7, rfl, hdd, mem_take_succ hc hall hc'⟩
  · simp only [decide_eq_false_iff_not, Int.ofNat_lt] at hc
    simp only [sz.down, ↓reduceIte, Nat.reduceLT, Int.reduceNeg, TEP, hdd]
    rw [List.take_of_length_le (by omega)] at hall
    rw [idx_none hall]
    exact Reif.dat rfl

theorem ev_ixC (l : List Cl) (q : FuncId) (caps : List V) (p : Cl → Bool) (he : enters P q = true) (hd : V.dats caps = true) (hq : ∀ x ∈ l, Ev TE q (ints x :: caps) (.bool (p x))) : Ev TE 60 [cls l, .fn (.func q) [] caps] (vi (idx l p)) := by
  refine Ev.bnd fun hb => ?_
  have hlen := cls_len hb
  refine Ev.of_awp Try.func60 rfl (by simp [nts]) (vc_ok mixed _ _ _ _ ?_)
  simp only [sz.down, ↓reduceIte, Nat.reduceLT, Int.reduceNeg, reduceCtorEq, TEP, tis, nts, Try.results60]
  refine awp_loop (fun m f h => ∃ i, m + i = l.length ∧ f.t 0 = cls l ∧ f.t 1 = .fn (.func q) [] caps ∧ f.t 7 = .int .i64 (l.length : Int) ∧ f.t 8 = .int .i64 (i : Int) ∧ f.d = [] ∧ ∀ x ∈ l.take i, p x = false) l.length ⟨0, by simp, rfl, rfl, rfl, rfl, rfl, by simp⟩ ?_
  rintro m f h ⟨i, hm, h0, h1, h7, h8, hdd, hall⟩
  refine vc_ok mixed _ _ _ _ ?_
  simp only [sz.down, ↓reduceIte, Nat.reduceLT, Int.reduceNeg, TEP, h7, h8]
  refine vcB.mk (fun hc => ?_) (fun hc => ?_)
  · simp only [decide_eq_true_eq, Int.ofNat_lt] at hc
    simp only [sz.down, ↓reduceIte, Nat.reduceEqDiff, Nat.reduceLT, Int.reduceNeg, reduceCtorEq, TEP, tis, h0, h1, h8, getC hc, he]
    refine ⟨⟨by omega, by omega⟩, ACalls.ev (hq _ (List.getElem_mem _)) (by simp [V.dats, V.dat, hd]) ?_⟩
    simp only [sz.down, ↓reduceIte, Int.reduceNeg]
    refine vcB.mk (fun hc' => ?_) (fun hc' => ?_)
    · simp only [sz.down, ↓reduceIte, Nat.reduceEqDiff, Nat.reduceLT, Int.reduceNeg, TEP, hdd]
      rw [idx_some hc hall hc']
      exact Reif.dat rfl
    · simp only [sz.down, ↓reduceIte, Nat.reduceEqDiff, Nat.reduceLT, Int.reduceNeg, TEP, h8, wrap_succ (show i < maxLen by omega)]
      exact .inl ⟨m - 1, by omega, i + 1, by omega, h0, h1, h7, rfl, hdd, mem_take_succ hc hall hc'⟩
  · simp only [decide_eq_false_iff_not, Int.ofNat_lt] at hc
    simp only [sz.down, ↓reduceIte, Nat.reduceLT, Int.reduceNeg, TEP, hdd]
    rw [List.take_of_length_le (by omega)] at hall
    rw [idx_none hall]
    exact Reif.dat rfl

theorem ev_ctI (c : Cl) (q : FuncId) (caps : List V) (p : Int → Bool) (he : enters P q = true) (hd : V.dats caps = true) (hq : ∀ x ∈ c, Ev TE q (vi x :: caps) (.bool (p x))) : Ev TE 40 [ints c, .fn (.func q) [] caps] (.bool (c.any p)) := by
  refine Ev.of_awp Try.func40 rfl (by simp [nts]) (vc_ok mixed _ _ _ _ ?_)
  simp only [sz.down, ↓reduceIte, Nat.reduceEqDiff, Nat.reduceLT, reduceCtorEq, TEP, ens, nts, Try.results40]
  refine ACalls.ev (ev_ixI c q caps p he hd hq) (by simp [V.dats, V.dat, hd]) ?_
  simp only [sz.down, ↓reduceIte, Nat.reduceLT, TEP]
  exact Reif.eq rfl (by rw [idx_has])
theorem ev_ctC (l : List Cl) (q : FuncId) (caps : List V) (p : Cl → Bool) (he : enters P q = true) (hd : V.dats caps = true) (hq : ∀ x ∈ l, Ev TE q (ints x :: caps) (.bool (p x))) : Ev TE 38 [cls l, .fn (.func q) [] caps] (.bool (l.any p)) := by
  refine Ev.of_awp Try.func38 rfl (by simp [nts]) (vc_ok mixed _ _ _ _ ?_)
  simp only [sz.down, ↓reduceIte, Nat.reduceEqDiff, Nat.reduceLT, reduceCtorEq, TEP, ens, nts, Try.results38]
  refine ACalls.ev (ev_ixC l q caps p he hd hq) (by simp [V.dats, V.dat, hd]) ?_
  simp only [sz.down, ↓reduceIte, Nat.reduceLT, TEP]
  exact Reif.eq rfl (by rw [idx_has])

theorem lit_odd {vars a : Int} (h0 : 0 ≤ vars) (h1 : vars ≤ 20000) : (a == 0 || decide (a < IntKind.i64.wrap (0 - vars)) || decide (vars < a)) = !lit vars a := by
  rw [wrapn (n := 0 - vars) (by omega) (by omega), Int.zero_sub]
  unfold lit
  by_cases h : a = 0
  · subst h; simp
  · have : (a == 0) = false := by simpa using h
    rw [this]
    simp only [ne_eq, h, not_false_eq_true, decide_true, Bool.false_or, Bool.true_and, Bool.not_and]
    congr 1
    · rw [← decide_not]; congr 1; simp
    · rw [← decide_not]; congr 1; simp

theorem ev_check1 (a vars : Int) (h0 : 0 ≤ vars) (h1 : vars ≤ 20000) : Ev TE 37 [vi a, .ip (vi vars)] (.bool (!lit vars a)) := by
  refine Ev.of_awp Try.func37 rfl (by simp [nts]) (vc_ok mixed _ _ _ _ ?_)
  simp only [sz.down, ↓reduceIte, Nat.reduceEqDiff, Nat.reduceLT, reduceCtorEq, TEP, tis, nts, Try.results37]
  exact Reif.eq rfl (by rw [lit_odd h0 h1])
theorem ev_can1 (a vars : Int) (h0 : 0 ≤ vars) (h1 : vars ≤ 20000) : Ev TE 55 [vi a, .ip (vi vars)] (.bool (!lit vars a)) := by
  refine Ev.of_awp Try.func55 rfl (by simp [nts]) (vc_ok mixed _ _ _ _ ?_)
  simp only [sz.down, ↓reduceIte, Nat.reduceEqDiff, Nat.reduceLT, reduceCtorEq, TEP, tis, nts, Try.results55]
  exact Reif.eq rfl (by rw [lit_odd h0 h1])
theorem any_not {c : Cl} {vars : Int} : (c.any fun a => !lit vars a) = !(c.all (lit vars)) := by simp [List.not_all_eq_any_not]
theorem any_not2 {l : List Cl} {vars : Int} : (l.any fun c => !(c.all (lit vars))) = !(l.all fun c => c.all (lit vars)) := by simp [List.not_all_eq_any_not]
theorem ev_check2 (c : Cl) (vars : Int) (h0 : 0 ≤ vars) (h1 : vars ≤ 20000) : Ev TE 39 [ints c, .ip (.fn (.func 37) [] [.ip (vi vars)])] (.bool (!(c.all (lit vars)))) := by
  refine Ev.of_awp Try.func39 rfl (by simp [nts]) (vc_ok mixed _ _ _ _ ?_)
  simp only [sz.down, ↓reduceIte, Nat.reduceEqDiff, Nat.reduceLT, reduceCtorEq, TEP, tis, ens, nts, Try.results39]
  refine ACalls.ev (ev_ctI c 37 [.ip (vi vars)] (fun a => !lit vars a) rfl rfl fun x _ => ev_check1 x vars h0 h1) rfl ?_
  rw [any_not]
  simp only [sz.down, ↓reduceIte, Nat.reduceLT, TEP]
  exact Reif.dat rfl
theorem ev_can2 (c : Cl) (vars : Int) (h0 : 0 ≤ vars) (h1 : vars ≤ 20000) : Ev TE 56 [ints c, .ip (.fn (.func 55) [] [.ip (vi vars)])] (.bool (!(c.all (lit vars)))) := by
  refine Ev.of_awp Try.func56 rfl (by simp [nts]) (vc_ok mixed _ _ _ _ ?_)
  simp only [sz.down, ↓reduceIte, Nat.reduceEqDiff, Nat.reduceLT, reduceCtorEq, TEP, tis, ens, nts, Try.results56]
  refine ACalls.ev (ev_ctI c 55 [.ip (vi vars)] (fun a => !lit vars a) rfl rfl fun x _ => ev_can1 x vars h0 h1) rfl ?_
  rw [any_not]
  simp only [sz.down, ↓reduceIte, Nat.reduceLT, TEP]
  exact Reif.dat rfl

theorem ev_check (l : List Cl) (vars : Int) : Ev TE 20 [cls l, vi vars] (vi (chk l vars)) := by
  refine Ev.of_awp Try.func20 rfl (by simp [nts]) (vc_ok mixed _ _ _ _ ?_)
  simp only [sz.down, ↓reduceIte, Nat.reduceEqDiff, Nat.reduceLT, reduceCtorEq, TEP, tis, nts, Try.results20]
  refine vcB.mk (fun hc => ?_) (fun hc => ?_)
  · simp only [sz.down, ↓reduceIte, Nat.reduceLT, TEP]
    exact Reif.eq rfl (by rw [chk_lim]; simpa [Bool.or_assoc] using hc)
  · obtain ⟨hv0, hv1, hr⟩ := chk_rest (l := l) (vars := vars) (by simpa [Bool.or_assoc] using hc)
    rw [hr]
    simp only [sz.down, ↓reduceIte, Nat.reduceEqDiff, Nat.reduceLT, reduceCtorEq, TEP, tis, ens]
    refine ACalls.lend (ev_ctC l 39 [.ip (.fn (.func 37) [] [.ip (vi vars)])] (fun c => !(c.all (lit vars))) rfl rfl fun x _ => ev_check2 x vars hv0 hv1)
      (Reifs.cons (Reif.dat rfl) (Reifs.cons (Reif.fn Reifs.nil (Reifs.cons (Reif.lp rfl (Reifs.cons (Reif.fn Reifs.nil (Reifs.cons (Reif.lp rfl (Reifs.dat rfl) rfl rfl (by simp [V.vc]) rfl) Reifs.nil)) Reifs.nil) rfl rfl (by simp [V.vc]) rfl) Reifs.nil)) Reifs.nil)) rfl ?_
    rw [any_not2]
    simp only [sz.down, ↓reduceIte]
    refine vcB.mk (fun hc' => ?_) (fun hc' => ?_)
    · simp only [sz.down, ↓reduceIte, Nat.reduceLT, TEP]
      rw [if_neg (by simpa using hc')]
      exact Reif.dat rfl
    · simp only [sz.down, ↓reduceIte, Nat.reduceLT, TEP]
      rw [if_pos (by simpa using hc')]
      exact Reif.dat rfl

/-- May it be asked? -/
def ask (l : List Cl) (vars : Int) (more : List Cl) : Int := if chk l vars ≠ 0 then chk l vars else if (more.all fun c => c.all (lit vars)) = true then 0 else 1

theorem chk_vars {l : List Cl} {vars : Int} (h : chk l vars = 0) : 0 ≤ vars ∧ vars ≤ 20000 ∧ l.length ≤ 100000 ∧ ∀ c ∈ l, ∀ a ∈ c, lit vars a = true := by
  unfold chk at h
  split at h
  · cases h
  · rename_i hh
    simp only [Bool.or_eq_true, decide_eq_true_eq] at hh
    split at h
    · rename_i h2
      refine ⟨by omega, by omega, by omega, ?_⟩
      simpa using h2
    · cases h

theorem ev_can (l : List Cl) (vars : Int) (more : List Cl) : Ev TE 35 [cls l, vi vars, cls more] (vi (ask l vars more)) := by
  refine Ev.of_awp Try.func35 rfl (by simp [nts]) (vc_ok mixed _ _ _ _ ?_)
  simp only [sz.down, ↓reduceIte, Nat.reduceEqDiff, Nat.reduceLT, reduceCtorEq, TEP, tis, ens, nts, Try.results35]
  refine ACalls.ev (ev_check l vars) rfl ?_
  simp only [sz.down, ↓reduceIte, Nat.reduceLT, TEP]
  refine vcB.mk (fun hc => ?_) (fun hc => ?_)
  · simp only [sz.down, ↓reduceIte, Nat.reduceEqDiff, Nat.reduceLT, TEP]
    have hc : chk l vars ≠ 0 := by simpa using hc
    exact Reif.eq rfl (by unfold ask; rw [if_pos hc])
  · have hc : chk l vars = 0 := by simpa using hc
    obtain ⟨hv0, hv1, _⟩ := chk_vars hc
    have hr : ask l vars more = if (more.all fun c => c.all (lit vars)) = true then 0 else 1 := by unfold ask; rw [if_neg (by simp [hc])]
    rw [hr]
    simp only [sz.down, ↓reduceIte, Nat.reduceEqDiff, Nat.reduceLT, TEP, tis, ens]
    refine ACalls.lend (ev_ctC more 56 [.ip (.fn (.func 55) [] [.ip (vi vars)])] (fun c => !(c.all (lit vars))) rfl rfl fun x _ => ev_can2 x vars hv0 hv1)
      (Reifs.cons (Reif.dat rfl) (Reifs.cons (Reif.fn Reifs.nil (Reifs.cons (Reif.lp rfl (Reifs.cons (Reif.fn Reifs.nil (Reifs.cons (Reif.lp rfl (Reifs.dat rfl) rfl rfl (by simp [V.vc]) rfl) Reifs.nil)) Reifs.nil) rfl rfl (by simp [V.vc]) rfl) Reifs.nil)) Reifs.nil)) rfl ?_
    rw [any_not2]
    simp only [sz.down, ↓reduceIte]
    refine vcB.mk (fun hc' => ?_) (fun hc' => ?_)
    · simp only [sz.down, ↓reduceIte, Nat.reduceLT, TEP]
      rw [if_neg (by simpa using hc')]
      exact Reif.dat rfl
    · simp only [sz.down, ↓reduceIte, Nat.reduceLT, TEP]
      rw [if_pos (by simpa using hc')]
      exact Reif.dat rfl

end Go.Proofs.Ytajcfppemkdomaa

set_option linter.unusedVariables false
set_option linter.unusedSimpArgs false
set_option linter.unnecessarySimpa false
namespace Go.Proofs.Ytajcfppemkdomaa
open Go Go.Proofs Go.Abs

abbrev heldT (ks : Cl) : List V := ks.map fun _ => V.bool true
abbrev heldV (ks : Cl) : V := .im (ks.map vi) (heldT ks)

theorem mfindI (a : Int) : ∀ (ks : Cl), mfind (.int .i64) (vi a) (ks.map vi) = some (ks.findIdx? (· == a))
  | [] => rfl
  | k :: ks => by
    simp only [List.map_cons, mfind, keq, List.findIdx?_cons]
    by_cases h : k = a
    · subst h; simp
    · have h1 : (a == k) = false := by simpa using fun h' => h h'.symm
      have h2 : (k == a) = false := by simpa using h
      have h3 : (if True then some (a == k) else none) = some false := by rw [if_pos trivial, h1]
      simp only [h3, mfindI a ks, h2]
      cases ks.findIdx? (· == a) <;> rfl

theorem mgetI (a : Int) (ks : Cl) : mget (.int .i64) (vi a) (ks.map vi) (heldT ks) (.bool false) false = (True, .bool (ks.contains a)) := by
  unfold mget
  rw [mfindI]
  cases h : ks.findIdx? (· == a) with
  | none =>
    have : ¬ a ∈ ks := by
      intro hm
      have := List.findIdx?_eq_none_iff.1 h a hm
      simp at this
    simp [this]
  | some n =>
    obtain ⟨h1, h2, _⟩ := List.findIdx?_eq_some_iff_getElem.1 h
    have h2 : ks[n] = a := by simpa using h2
    have : a ∈ ks := h2 ▸ List.getElem_mem h1
    simp [this, h1]

/-- The one literal of a clause that has to hold. -/
def unitF (h : Cl) : Int → Cl → Int × Bool
  | one, [] => (one, one == 0)
  | one, a :: c => if (h.contains a || (one != 0 && one != a && !h.contains (-a))) = true then (0, false) else unitF h (if h.contains (-a) = true then one else a) c

theorem wrapneg {a : Int} (h : -20000 ≤ a ∧ a ≤ 20000) : IntKind.i64.wrap (0 - a) = -a := by
  rw [wrapn (by omega) (by omega)]; omega

theorem ev_unit (h c : Cl) (hc : ∀ a ∈ c, -20000 ≤ a ∧ a ≤ 20000) : Ev TE 82 [heldV h, ints c] (.tup [vi (unitF h 0 c).1, .bool (unitF h 0 c).2]) := by
  refine Ev.bnd fun hb => ?_
  have hlen : c.length ≤ maxLen := by
    simp only [V.bnds, V.bnd, List.length_map] at hb
    exact hb.2.1.1
  refine Ev.of_awp Try.func82 rfl (by simp [nts]) (vc_ok mixed _ _ _ _ ?_)
  simp only [sz.down, ↓reduceIte, Nat.reduceEqDiff, Nat.reduceLT, TEP, tis, nts, Try.results82]
  refine awp_loop (fun m f hh => ∃ i one, m + i = c.length ∧ f.t 0 = heldV h ∧ f.t 1 = ints c ∧ f.t 6 = vi one ∧ f.t 9 = ints c ∧ f.t 10 = vi c.length ∧ f.t 11 = vi i ∧ f.d = [] ∧ unitF h 0 c = unitF h one (c.drop i)) c.length ⟨0, 0, by simp, rfl, rfl, rfl, rfl, rfl, rfl, rfl, rfl⟩ ?_
  rintro m f hh ⟨i, one, hm, h0, h1, h6, h9, h10, h11, hd, hu⟩
  refine vc_ok mixed _ _ _ _ ?_
  simp only [sz.down, ↓reduceIte, Nat.reduceLT, TEP, h10, h11]
  refine vcB.mk (fun hlt => ?_) (fun hlt => ?_)
  · simp only [decide_eq_true_eq, Int.ofNat_lt] at hlt
    have hdrop : c.drop i = c[i] :: c.drop (i + 1) := List.drop_eq_getElem_cons hlt
    rw [hdrop, unitF] at hu
    have hw := wrapneg (hc c[i] (List.getElem_mem _))
    simp only [sz.down, ↓reduceIte, Nat.reduceEqDiff, Nat.reduceLT, reduceCtorEq, TEP, tis, h0, h9, h11, getI hlt, mgetI]
    refine ⟨⟨by omega, by omega⟩, vcB.mk (fun hin => ?_) (fun hin => ?_)⟩
    · rw [if_pos (by rw [hin]; rfl)] at hu
      rw [hu]
      simp only [sz.down, ↓reduceIte, Nat.reduceEqDiff, Nat.reduceLT, TEP, hd, hin]
      exact Reif.dat rfl
    · simp only [sz.down, ↓reduceIte, Nat.reduceEqDiff, Nat.reduceLT, reduceCtorEq, TEP, tis, h0, h6, mgetI, hw, hin]
      refine vcB.mk (fun hb2 => ?_) (fun hb2 => ?_)
      · rw [if_pos (by rw [hin, Bool.false_or]; exact hb2)] at hu
        rw [hu]
        simp only [sz.down, ↓reduceIte, Nat.reduceEqDiff, Nat.reduceLT, TEP, hd]
        exact Reif.dat rfl
      · rw [if_neg (by rw [hin, Bool.false_or, hb2]; exact Bool.false_ne_true)] at hu
        simp only [sz.down, ↓reduceIte, Nat.reduceEqDiff, Nat.reduceLT, reduceCtorEq, TEP, tis, h0, mgetI, hw]
        refine vcB.mk (fun hn => ?_) (fun hn => ?_)
        · rw [if_neg (by simpa using hn)] at hu
          simp only [sz.down, ↓reduceIte, Nat.reduceEqDiff, Nat.reduceLT, TEP, h11, wrap_succ (show i < maxLen by omega)]
          exact .inl ⟨m - 1, by omega, i + 1, c[i], by omega, h0, h1, rfl, h9, h10, rfl, hd, hu⟩
        · rw [if_pos (by simpa using hn)] at hu
          simp only [sz.down, ↓reduceIte, Nat.reduceEqDiff, Nat.reduceLT, TEP, h11, wrap_succ (show i < maxLen by omega)]
          exact .inl ⟨m - 1, by omega, i + 1, one, by omega, h0, h1, h6, h9, h10, rfl, hd, hu⟩
  · simp only [decide_eq_false_iff_not, Int.ofNat_lt] at hlt
    rw [List.drop_of_length_le (by omega)] at hu
    rw [hu]
    simp only [sz.down, ↓reduceIte, Nat.reduceEqDiff, Nat.reduceLT, TEP, h6, hd]
    exact Reif.dat rfl

end Go.Proofs.Ytajcfppemkdomaa
