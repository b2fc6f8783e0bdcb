/- Functions of the program, part 01. -/
import Derived.Test.YtboolnpmlmgpkaaGreatDoorP0
import Derived.Test.YtboolnpmlmgpkaaGreatDoorA9
set_option linter.unusedVariables false
set_option maxRecDepth 20000
set_option linter.unusedSimpArgs false
set_option linter.unnecessarySimpa false
namespace Go.Proofs.YtboolnpmlmgpkaaGreatDoor
open Go Go.Proofs Go.Abs

abbrev Cl := List Int
abbrev vi (n : Int) : V := .int .i64 n
abbrev ints (c : Cl) : V := .is false 1 (c.map vi)
abbrev cls (l : List Cl) : V := .is false 1 (l.map fun c => ints c)

theorem ints_len {l : Cl} {r : List V} (hb : V.bnds (ints l :: r)) : l.length ≤ maxLen := by
  simp only [V.bnds, V.bnd, List.length_map] at hb
  exact hb.1.1
theorem cls_len {l : List Cl} {r : List V} (hb : V.bnds (cls l :: r)) : l.length ≤ maxLen := by
  simp only [V.bnds, V.bnd, List.length_map] at hb
  exact hb.1.1
theorem mem_bnds {v : V} : ∀ {vs : List V}, V.bnds vs → v ∈ vs → v.bnd
  | x :: xs, hb, hm => by
    simp only [V.bnds] at hb
    cases hm with
    | head => exact hb.1
    | tail _ h => exact mem_bnds hb.2 h
theorem cls_each {l : List Cl} {r : List V} (hb : V.bnds (cls l :: r)) : ∀ c ∈ l, c.length ≤ maxLen := by
  intro c hc
  simp only [V.bnds, V.bnd] at hb
  have := mem_bnds hb.1.2 (List.mem_map.2 ⟨c, hc, rfl⟩)
  simp only [V.bnd, List.length_map] at this
  exact this.1
theorem getI {l : Cl} {i : Nat} (h : i < l.length) (d : V) : (List.map vi l).getD i d = vi l[i] := getD_map h _
theorem getC {l : List Cl} {i : Nat} (h : i < l.length) (d : V) : (List.map (fun c => ints c) l).getD i d = ints l[i] := getD_map h _

/-- Clauses so few and so short. -/
def fewC (n : Nat) (l : List Cl) : Bool := decide (l.length ≤ n) && l.all fun s => decide (s.length ≤ 30)

/-- Is it a literal? -/
def lit (vars a : Int) : Bool := decide (a ≠ 0) && (decide (-vars ≤ a) && decide (a ≤ vars))

theorem wrapn {n : Int} (h1 : -9223372036854775808 ≤ n) (h2 : n ≤ 9223372036854775807) : IntKind.i64.wrap n = n := wrap64 h1 (by omega)

theorem mem_take_succ {α : Type} {l : List α} {i : Nat} (h : i < l.length) {P : α → Prop} (h1 : ∀ s ∈ l.take i, P s) (h2 : P l[i]) : ∀ s ∈ l.take (i + 1), P s := by
  intro s hs
  rw [List.take_add_one] at hs
  simp only [h, List.getElem?_eq_getElem, Option.toList_some, List.mem_append, List.mem_singleton] at hs
  rcases hs with hs | rfl
  · exact h1 s hs
  · exact h2
theorem all_mem {α : Type} {l : List α} {i : Nat} {p : α → Bool} (h : ∀ s ∈ l.take i, p s = true) (hi : ¬ i < l.length) : l.all p = true := by
  rw [List.take_of_length_le (by omega)] at h
  exact List.all_eq_true.2 h
theorem not_all {α : Type} {l : List α} {i : Nat} {p : α → Bool} (hi : i < l.length) (h : p l[i] = false) : l.all p = false := by
  rw [List.all_eq_false]
  exact ⟨l[i], List.getElem_mem _, by simp [h]⟩

/-- May clauses be asked? -/
def chk (l : List Cl) (vars : Int) : Int :=
  if (decide (vars < 0) || decide (20000 < vars) || decide (100000 < l.length)) = true then 8
  else if (l.all fun c => c.all (lit vars)) = true then 0 else 1

theorem chk_lim {l : List Cl} {vars : Int} (h : (decide (vars < 0) || decide (20000 < vars) || decide (100000 < (l.length : Int))) = true) : chk l vars = 8 := by
  unfold chk
  rw [if_pos]
  simp only [Bool.or_eq_true, decide_eq_true_eq] at h ⊢
  omega
theorem chk_rest {l : List Cl} {vars : Int} (h : (decide (vars < 0) || decide (20000 < vars) || decide (100000 < (l.length : Int))) = false) :
    0 ≤ vars ∧ vars ≤ 20000 ∧ chk l vars = if (l.all fun c => c.all (lit vars)) = true then 0 else 1 := by
  simp only [Bool.or_eq_false_iff, decide_eq_false_iff_not] at h
  refine ⟨by omega, by omega, ?_⟩
  unfold chk
  rw [if_neg]
  simp only [Bool.or_eq_true, decide_eq_true_eq]
  omega

end Go.Proofs.YtboolnpmlmgpkaaGreatDoor

set_option linter.unusedVariables false
set_option maxRecDepth 20000
set_option linter.unusedSimpArgs false
set_option linter.unnecessarySimpa false
namespace Go.Proofs.YtboolnpmlmgpkaaGreatDoor
open Go Go.Proofs Go.Abs

theorem take_eq {α : Type} {a b : List α} {i : Nat} (h : a.take i = b.take i) (ha : i < a.length) (hb : i < b.length) (he : a[i] = b[i]) : a.take (i + 1) = b.take (i + 1) := by
  rw [List.take_add_one, List.take_add_one, h]
  simp [ha, hb, he]

theorem ev_ints (a b : Cl) : Ev TE 113 [ints a, ints b] (.bool (a == b)) := by
  refine Ev.bnd fun hb => ?_
  have hlen := ints_len hb
  refine Ev.of_awp Tryz.func113 rfl (by simp [nts]) (vc_ok mixed _ _ _ _ ?_)
  simp only [sz.down, ↓reduceIte, Nat.reduceEqDiff, Nat.reduceLT, reduceCtorEq, TEP, tis, nts, Tryz.results113]
  refine vcB.mk (fun hc => ?_) (fun hc => ?_)
  · simp only [sz.down, ↓reduceIte, Nat.reduceLT, TEP]
    refine Reif.eq rfl ?_
    simp only [bne_iff_ne, ne_eq, Int.natCast_inj] at hc
    have : ¬ a = b := fun h => hc (by rw [h])
    simp [this]
  · have hl : a.length = b.length := by simpa [Int.natCast_inj] using hc
    simp only [sz.down, Nat.reduceLT, TEP]
    refine awp_loop (fun m f h => ∃ i, m + i = a.length ∧ f.t 0 = ints a ∧ f.t 1 = ints b ∧ f.t 5 = .int .i64 (i : Int) ∧ f.d = [] ∧ a.take i = b.take i) a.length ⟨0, by simp, rfl, rfl, rfl, rfl, by simp⟩ ?_
    rintro m f h ⟨i, hm, h0, h1, h5, hd, hall⟩
    refine vc_ok mixed _ _ _ _ ?_
    simp only [sz.down, ↓reduceIte, Nat.reduceEqDiff, Nat.reduceLT, reduceCtorEq, TEP, tis, h0, h5]
    refine vcB.mk (fun hc => ?_) (fun hc => ?_)
    · simp only [decide_eq_true_eq, Int.ofNat_lt] at hc
      have hc2 : i < b.length := by omega
      simp only [sz.down, ↓reduceIte, Nat.reduceEqDiff, Nat.reduceLT, reduceCtorEq, TEP, tis, h0, h1, h5, getI hc, getI hc2]
      refine ⟨by decide +kernel, ⟨by omega, by omega⟩, ⟨by omega, by omega⟩, vcB.mk (fun hc => ?_) (fun hc => ?_)⟩
      · simp only [sz.down, ↓reduceIte, Nat.reduceLT, TEP, hd]
        refine Reif.eq rfl ?_
        have : ¬ a = b := fun h => by subst h; simp at hc
        simp [this]
      · simp only [sz.down, ↓reduceIte, Nat.reduceEqDiff, Nat.reduceLT, TEP, h5, wrap_succ (show i < maxLen by omega)]
        exact .inl ⟨m - 1, by omega, i + 1, by omega, h0, h1, rfl, hd, take_eq hall (by omega) (by omega) (by simpa using hc)⟩
    · simp only [decide_eq_false_iff_not, Int.ofNat_lt] at hc
      simp only [sz.down, ↓reduceIte, Nat.reduceLT, TEP, hd]
      refine Reif.eq rfl ?_
      rw [List.take_of_length_le (by omega), List.take_of_length_le (by omega)] at hall
      simp [hall]

abbrev bools (l : List Bool) : V := .is false 1 (l.map V.bool)
theorem bools_len {l : List Bool} {r : List V} (hb : V.bnds (bools l :: r)) : l.length ≤ maxLen := by
  simp only [V.bnds, V.bnd, List.length_map] at hb
  exact hb.1.1
theorem getB {l : List Bool} {i : Nat} (h : i < l.length) (d : V) : (List.map V.bool l).getD i d = .bool l[i] := getD_map h _
theorem mem1 {r : List V} {l : Cl} {k : V} (hb : V.bnds (k :: ints l :: r)) : l.length ≤ maxLen := by
  simp only [V.bnds, V.bnd, List.length_map] at hb
  exact hb.2.1.1

theorem getD_at {α : Type} {l : List α} {i : Nat} {d : α} (h : i < l.length) : l.getD i d = l[i] := by simp [List.getD_eq_getElem?_getD, h]

/-- Does a literal hold? -/
def hol (vs : List Bool) (a : Int) : Bool := if a < 0 then !(vs.getD (-a - 1).toNat false) else vs.getD (a - 1).toNat false

theorem lit_rng {n a : Int} (h : lit n a = true) : a ≠ 0 ∧ -n ≤ a ∧ a ≤ n := by
  simpa [lit] using h

/-- Do values let clauses hold? -/
def sat (l : List Cl) (vs : List Bool) : Bool := l.all fun c => c.any (hol vs)

/-- Does a literal hold in a row of signs? -/
def hld (on : Cl) (a : Int) : Bool := if a < 0 then on.getD (-a).toNat 0 == -1 else on.getD a.toNat 0 == 1

end Go.Proofs.YtboolnpmlmgpkaaGreatDoor

set_option linter.unusedVariables false
set_option maxRecDepth 20000
set_option linter.unusedSimpArgs false
set_option linter.unnecessarySimpa false
namespace Go.Proofs.YtboolnpmlmgpkaaGreatDoor
open Go Go.Proofs Go.Abs

/-- The first place. -/
def idx {α : Type} (l : List α) (p : α → Bool) : Int := match l.findIdx? p with | some i => i | none => -1

theorem idx_some {α : Type} {l : List α} {p : α → Bool} {i : Nat} (h : i < l.length) (hn : ∀ x ∈ l.take i, p x = false) (hb : p l[i] = true) : idx l p = i := by
  have : l.findIdx? p = some i := by
    rw [List.findIdx?_eq_some_iff_getElem]
    refine ⟨h, hb, fun j hj => ?_⟩
    have : l[j] ∈ l.take i := by
      rw [List.mem_take_iff_getElem]
      exact ⟨j, by omega, rfl⟩
    simp [hn _ this]
  simp [idx, this]
theorem idx_none {α : Type} {l : List α} {p : α → Bool} (hn : ∀ x ∈ l, p x = false) : idx l p = -1 := by
  have : l.findIdx? p = none := by
    rw [List.findIdx?_eq_none_iff]
    simpa using hn
  simp [idx, this]
theorem idx_has {α : Type} (l : List α) (p : α → Bool) : decide (0 ≤ idx l p) = l.any p := by
  cases h : l.any p with
  | false =>
    rw [idx_none (by simpa using h)]
    rfl
  | true =>
    have : ∃ x ∈ l, p x = true := by simpa using h
    unfold idx
    cases hb : l.findIdx? p with
    | none =>
      obtain ⟨x, hx, hx2⟩ := this
      have := (List.findIdx?_eq_none_iff.1 hb) x hx
      simp [hx2] at this
    | some i => simp

theorem lit_odd {vars a : Int} (h0 : 0 ≤ vars) (h1 : vars ≤ 20000) : (a == 0 || decide (a < IntKind.i64.wrap (0 - vars)) || decide (vars < a)) = !lit vars a := by
  rw [wrapn (n := 0 - vars) (by omega) (by omega), Int.zero_sub]
  unfold lit
  by_cases h : a = 0
  · subst h; simp
  · have : (a == 0) = false := by simpa using h
    rw [this]
    simp only [ne_eq, h, not_false_eq_true, decide_true, Bool.false_or, Bool.true_and, Bool.not_and]
    congr 1
    · rw [← decide_not]; congr 1; simp
    · rw [← decide_not]; congr 1; simp

theorem any_not {c : Cl} {vars : Int} : (c.any fun a => !lit vars a) = !(c.all (lit vars)) := by simp [List.not_all_eq_any_not]
theorem any_not2 {l : List Cl} {vars : Int} : (l.any fun c => !(c.all (lit vars))) = !(l.all fun c => c.all (lit vars)) := by simp [List.not_all_eq_any_not]
/-- May it be asked? -/
def ask (l : List Cl) (vars : Int) (more : List Cl) : Int := if chk l vars ≠ 0 then chk l vars else if (more.all fun c => c.all (lit vars)) = true then 0 else 1

theorem chk_vars {l : List Cl} {vars : Int} (h : chk l vars = 0) : 0 ≤ vars ∧ vars ≤ 20000 ∧ l.length ≤ 100000 ∧ ∀ c ∈ l, ∀ a ∈ c, lit vars a = true := by
  unfold chk at h
  split at h
  · cases h
  · rename_i hh
    simp only [Bool.or_eq_true, decide_eq_true_eq] at hh
    split at h
    · rename_i h2
      refine ⟨by omega, by omega, by omega, ?_⟩
      simpa using h2
    · cases h

end Go.Proofs.YtboolnpmlmgpkaaGreatDoor

set_option linter.unusedVariables false
set_option maxRecDepth 20000
set_option linter.unusedSimpArgs false
set_option linter.unnecessarySimpa false
namespace Go.Proofs.YtboolnpmlmgpkaaGreatDoor
open Go Go.Proofs Go.Abs

abbrev S := List UInt8
abbrev strs (l : List S) : V := .is false 1 (l.map V.str)

theorem strs_len {l : List S} {r : List V} (hb : V.bnds (strs l :: r)) : l.length ≤ maxLen := by
  simp only [V.bnds, V.bnd, List.length_map] at hb
  exact hb.1.1
theorem getS {l : List S} {i : Nat} (h : i < l.length) (d : V) : (List.map V.str l).getD i d = .str l[i] := getD_map h _

/-- Texts so few and so short. -/
def fewS (n : Nat) (l : List S) : Bool := decide (l.length ≤ n) && l.all fun s => decide (s.length ≤ 60)

theorem ev_texts5 (l : List S) (n : Nat) : Ev TE 56 [strs l, .int .i64 n] (.bool (fewS n l)) := by
  refine Ev.bnd fun hb => ?_
  have hlen := strs_len hb
  refine Ev.of_awp Tryz.func56 rfl (by simp [nts]) (vc_ok mixed _ _ _ _ ?_)
  simp only [sz.down, Nat.reduceLT, TEP, nts, Tryz.results56]
  refine awp_loop (fun m f h => ∃ i, m + i = l.length ∧ f.t 0 = strs l ∧ f.t 1 = .int .i64 n ∧ f.t 5 = .int .i64 (i : Int) ∧ f.d = [] ∧ ∀ s ∈ l.take i, s.length ≤ 60) l.length ⟨0, by simp, rfl, rfl, rfl, rfl, by simp⟩ ?_
  rintro m f h ⟨i, hm, h0, h1, h5, hd, hall⟩
  refine vc_ok mixed _ _ _ _ ?_
  simp only [sz.down, ↓reduceIte, Nat.reduceEqDiff, Nat.reduceLT, reduceCtorEq, TEP, tis, h0, h1, h5]
  refine vcB.mk (fun hc => ?_) (fun hc => ?_)
  · simp only [Bool.and_eq_true, decide_eq_true_eq, Int.ofNat_lt, Int.ofNat_le] at hc
    obtain ⟨hc1, hc2⟩ := hc
    simp only [sz.down, ↓reduceIte, Nat.reduceEqDiff, Nat.reduceLT, reduceCtorEq, TEP, tis, h0, h5, getS hc1]
    refine ⟨⟨by omega, by omega⟩, vcB.mk (fun hc => ?_) (fun hc => ?_)⟩
    · simp only [sz.down, ↓reduceIte, Nat.reduceLT, TEP, hd]
      have : fewS n l = false := by
        simp only [decide_eq_true_eq] at hc
        have hx : ∃ x ∈ l, ¬ x.length ≤ 60 := ⟨l[i], List.getElem_mem _, by omega⟩
        simpa [fewS] using fun _ => hx
      rw [this]
      exact Reif.dat rfl
    · simp only [sz.down, ↓reduceIte, Nat.reduceEqDiff, Nat.reduceLT, TEP, h5, wrap_succ (show i < maxLen by omega)]
      refine .inl ⟨m - 1, by omega, i + 1, by omega, h0, h1, rfl, hd, ?_⟩
      simp only [decide_eq_false_iff_not] at hc
      intro s hs
      rw [List.take_add_one] at hs
      simp only [hc1, List.getElem?_eq_getElem, Option.toList_some, List.mem_append, List.mem_singleton] at hs
      rcases hs with hs | rfl
      · exact hall s hs
      · omega
  · simp only [sz.down, ↓reduceIte, Nat.reduceEqDiff, Nat.reduceLT, reduceCtorEq, TEP, tis, h0, h1, hd]
    have : (decide ((l.length : Int) ≤ n)) = fewS n l := by
      simp only [Bool.and_eq_false_iff, decide_eq_false_iff_not, Int.ofNat_lt, Int.ofNat_le] at hc
      by_cases hi : i < l.length
      · have h2 : ¬ l.length ≤ n := by omega
        simp [fewS, h2]
      · rw [List.take_of_length_le (by omega)] at hall
        have : (l.all fun s => decide (s.length ≤ 60)) = true := by simpa using hall
        simp [fewS, this]
    rw [this]
    exact Reif.dat rfl

theorem ev_texts1 (a b : List S) : Ev TE 55 [strs a, strs b] (.bool (a == b)) := by
  refine Ev.bnd fun hb => ?_
  have hlen := strs_len hb
  refine Ev.of_awp Tryz.func55 rfl (by simp [nts]) (vc_ok mixed _ _ _ _ ?_)
  simp only [sz.down, ↓reduceIte, Nat.reduceEqDiff, Nat.reduceLT, reduceCtorEq, TEP, tis, nts, Tryz.results55]
  refine vcB.mk (fun hc => ?_) (fun hc => ?_)
  · simp only [sz.down, ↓reduceIte, Nat.reduceLT, TEP]
    refine Reif.eq rfl ?_
    simp only [bne_iff_ne, ne_eq, Int.natCast_inj] at hc
    have : ¬ a = b := fun h => hc (by rw [h])
    simp [this]
  · have hl : a.length = b.length := by simpa [Int.natCast_inj] using hc
    simp only [sz.down, Nat.reduceLT, TEP]
    refine awp_loop (fun m f h => ∃ i, m + i = a.length ∧ f.t 0 = strs a ∧ f.t 1 = strs b ∧ f.t 5 = .int .i64 (i : Int) ∧ f.d = [] ∧ a.take i = b.take i) a.length ⟨0, by simp, rfl, rfl, rfl, rfl, by simp⟩ ?_
    rintro m f h ⟨i, hm, h0, h1, h5, hd, hall⟩
    refine vc_ok mixed _ _ _ _ ?_
    simp only [sz.down, ↓reduceIte, Nat.reduceEqDiff, Nat.reduceLT, reduceCtorEq, TEP, tis, h0, h5]
    refine vcB.mk (fun hc => ?_) (fun hc => ?_)
    · simp only [decide_eq_true_eq, Int.ofNat_lt] at hc
      have hc2 : i < b.length := by omega
      simp only [sz.down, ↓reduceIte, Nat.reduceEqDiff, Nat.reduceLT, reduceCtorEq, TEP, tis, h0, h1, h5, getS hc, getS hc2]
      refine ⟨by decide +kernel, ⟨by omega, by omega⟩, ⟨by omega, by omega⟩, vcB.mk (fun hc => ?_) (fun hc => ?_)⟩
      · simp only [sz.down, ↓reduceIte, Nat.reduceLT, TEP, hd]
        refine Reif.eq rfl ?_
        have : ¬ a = b := fun h => by subst h; simp at hc
        simp [this]
      · simp only [sz.down, ↓reduceIte, Nat.reduceEqDiff, Nat.reduceLT, TEP, h5, wrap_succ (show i < maxLen by omega)]
        exact .inl ⟨m - 1, by omega, i + 1, by omega, h0, h1, rfl, hd, take_eq hall (by omega) (by omega) (by simpa using hc)⟩
    · simp only [decide_eq_false_iff_not, Int.ofNat_lt] at hc
      simp only [sz.down, ↓reduceIte, Nat.reduceLT, TEP, hd]
      refine Reif.eq rfl ?_
      rw [List.take_of_length_le (by omega), List.take_of_length_le (by omega)] at hall
      simp [hall]

theorem ev_equal (a b : List S) : Ev TE 77 [strs a, strs b] (.bool (a == b)) := by
  refine Ev.bnd fun hb => ?_
  have hlen := strs_len hb
  refine Ev.of_awp Tryz.func77 rfl (by simp [nts]) (vc_ok mixed _ _ _ _ ?_)
  simp only [sz.down, ↓reduceIte, Nat.reduceEqDiff, Nat.reduceLT, reduceCtorEq, TEP, tis, nts, Tryz.results77]
  refine vcB.mk (fun hc => ?_) (fun hc => ?_)
  · simp only [sz.down, ↓reduceIte, Nat.reduceLT, TEP]
    refine Reif.eq rfl ?_
    simp only [bne_iff_ne, ne_eq, Int.natCast_inj] at hc
    have : ¬ a = b := fun h => hc (by rw [h])
    simp [this]
  · have hl : a.length = b.length := by simpa [Int.natCast_inj] using hc
    simp only [sz.down, ↓reduceIte, Nat.reduceLT, reduceCtorEq, TEP, tis]
    refine awp_loop (fun m f h => ∃ i, m + i = a.length ∧ f.t 0 = strs a ∧ f.t 1 = strs b ∧ f.t 12 = .int .i64 (a.length : Int) ∧ f.t 13 = .int .i64 (i : Int) ∧ f.d = [] ∧ a.take i = b.take i) a.length ⟨0, by simp, rfl, rfl, rfl, rfl, rfl, by simp⟩ ?_
    rintro m f h ⟨i, hm, h0, h1, h12, h5, hd, hall⟩
    refine vc_ok mixed _ _ _ _ ?_
    simp only [sz.down, ↓reduceIte, Nat.reduceLT, TEP, h12, h5]
    refine vcB.mk (fun hc => ?_) (fun hc => ?_)
    · simp only [decide_eq_true_eq, Int.ofNat_lt] at hc
      have hc2 : i < b.length := by omega
      simp only [sz.down, ↓reduceIte, Nat.reduceEqDiff, Nat.reduceLT, reduceCtorEq, TEP, tis, h0, h1, h5, getS hc, getS hc2]
      refine ⟨by decide +kernel, ⟨by omega, by omega⟩, ⟨by omega, by omega⟩, vcB.mk (fun hc => ?_) (fun hc => ?_)⟩
      · simp only [sz.down, ↓reduceIte, Nat.reduceLT, TEP, hd]
        refine Reif.eq rfl ?_
        have : ¬ a = b := fun h => by subst h; simp at hc
        simp [this]
      · simp only [sz.down, ↓reduceIte, Nat.reduceEqDiff, Nat.reduceLT, TEP, h5, wrap_succ (show i < maxLen by omega)]
        exact .inl ⟨m - 1, by omega, i + 1, by omega, h0, h1, h12, rfl, hd, take_eq hall (by omega) (by omega) (by simpa using hc)⟩
    · simp only [decide_eq_false_iff_not, Int.ofNat_lt] at hc
      simp only [sz.down, ↓reduceIte, Nat.reduceLT, TEP, hd]
      refine Reif.eq rfl ?_
      rw [List.take_of_length_le (by omega), List.take_of_length_le (by omega)] at hall
      simp [hall]

theorem ev_has (l : List S) (s : S) : Ev TE 210 [strs l, .str s] (.bool (l.contains s)) := by
  refine Ev.bnd fun hb => ?_
  have hlen := strs_len hb
  refine Ev.of_awp Tryz.func210 rfl (by simp [nts]) (vc_ok mixed _ _ _ _ ?_)
  simp only [sz.down, Nat.reduceLT, TEP, nts, Tryz.results210]
  refine awp_loop (fun m f h => ∃ i, m + i = l.length ∧ f.t 0 = strs l ∧ f.t 1 = .str s ∧ f.t 5 = .int .i64 (i : Int) ∧ f.d = [] ∧ ∀ x ∈ l.take i, ¬ x = s) l.length ⟨0, by simp, rfl, rfl, rfl, rfl, by simp⟩ ?_
  rintro m f h ⟨i, hm, h0, h1, h5, hd, hall⟩
  refine vc_ok mixed _ _ _ _ ?_
  simp only [sz.down, ↓reduceIte, Nat.reduceEqDiff, Nat.reduceLT, reduceCtorEq, TEP, tis, h0, h5]
  refine vcB.mk (fun hc => ?_) (fun hc => ?_)
  · simp only [decide_eq_true_eq, Int.ofNat_lt] at hc
    simp only [sz.down, ↓reduceIte, Nat.reduceEqDiff, Nat.reduceLT, reduceCtorEq, TEP, tis, h0, h1, h5, getS hc]
    refine ⟨⟨by omega, by omega⟩, vcB.mk (fun hc' => ?_) (fun hc' => ?_)⟩
    · simp only [sz.down, ↓reduceIte, Nat.reduceLT, TEP, hd]
      refine Reif.eq rfl ?_
      have he : l[i] = s := by simpa using hc'
      have : s ∈ l := he ▸ List.getElem_mem _
      simp [this]
    · simp only [sz.down, ↓reduceIte, Nat.reduceEqDiff, Nat.reduceLT, TEP, h5, wrap_succ (show i < maxLen by omega)]
      exact .inl ⟨m - 1, by omega, i + 1, by omega, h0, h1, rfl, hd, mem_take_succ hc hall (by simpa using hc')⟩
  · simp only [decide_eq_false_iff_not, Int.ofNat_lt] at hc
    simp only [sz.down, ↓reduceIte, Nat.reduceLT, TEP, hd]
    refine Reif.eq rfl ?_
    rw [List.take_of_length_le (by omega)] at hall
    have : ¬ s ∈ l := fun h => hall s h rfl
    simp [this]

/-- A name. -/
def okByte (c : UInt8) : Bool := decide (33 ≤ c.toNat) && decide (c.toNat ≤ 126)
def okName (s : S) : Bool := s.all okByte && (decide (1 ≤ s.length) && decide (s.length ≤ 40))

theorem getBy {s : S} {i : Nat} (h : i < s.length) : s.getD i 0 = s[i] := by
  simp [List.getD_eq_getElem?_getD, h]

theorem ev_rname (s : S) : Ev TE 209 [.str s] (.bool (okName s)) := by
  refine Ev.bnd fun hb => ?_
  have hlen : s.length ≤ maxLen := hb.1
  refine Ev.of_awp Tryz.func209 rfl (by simp [nts]) (vc_ok mixed _ _ _ _ ?_)
  simp only [sz.down, Nat.reduceLT, TEP, nts, Tryz.results209]
  refine awp_loop (fun m f h => ∃ i, m + i = s.length ∧ f.t 0 = .str s ∧ f.t 3 = .int .i64 (i : Int) ∧ f.d = [] ∧ ∀ x ∈ s.take i, okByte x = true) s.length ⟨0, by simp, rfl, rfl, rfl, by simp⟩ ?_
  rintro m f h ⟨i, hm, h0, h5, hd, hall⟩
  refine vc_ok mixed _ _ _ _ ?_
  simp only [sz.down, ↓reduceIte, Nat.reduceEqDiff, Nat.reduceLT, reduceCtorEq, TEP, tis, h0, h5]
  refine vcB.mk (fun hc => ?_) (fun hc => ?_)
  · simp only [decide_eq_true_eq, Int.ofNat_lt] at hc
    simp only [sz.down, ↓reduceIte, Nat.reduceEqDiff, Nat.reduceLT, reduceCtorEq, TEP, tis, h0, h5, getBy hc]
    refine ⟨⟨by omega, by omega⟩, fun h => ⟨h, by omega, by omega⟩, vcB.mk (fun hc' => ?_) (fun hc' => ?_)⟩
    · simp only [sz.down, ↓reduceIte, Nat.reduceLT, TEP, hd]
      refine Reif.eq rfl ?_
      have hx : ∃ x ∈ s, ¬ okByte x = true := ⟨s[i], List.getElem_mem _, by simp [okByte] at hc' ⊢; omega⟩
      have : s.all okByte = false := by simpa using hx
      simp [okName, this]
    · simp only [sz.down, ↓reduceIte, Nat.reduceEqDiff, Nat.reduceLT, TEP, h5, wrap_succ (show i < maxLen by omega)]
      exact .inl ⟨m - 1, by omega, i + 1, by omega, h0, rfl, hd, mem_take_succ hc hall (by simp [okByte] at hc' ⊢; omega)⟩
  · simp only [decide_eq_false_iff_not, Int.ofNat_lt] at hc
    simp only [sz.down, ↓reduceIte, Nat.reduceEqDiff, Nat.reduceLT, reduceCtorEq, TEP, tis, h0, hd]
    refine Reif.eq rfl ?_
    rw [List.take_of_length_le (by omega)] at hall
    have : s.all okByte = true := by simpa using hall
    simp only [okName, this, Bool.true_and, V.bool.injEq]
    congr 1 <;> exact decide_eq_decide.2 (by omega)

/-- No text stands there twice. -/
def once (l : List S) : Bool := decide l.Nodup

theorem nodup_take {l : List S} {i : Nat} (h : i < l.length) (hn : (l.take i).Nodup) (hc : ¬ l[i] ∈ l.take i) : (l.take (i + 1)).Nodup := by
  rw [List.take_add_one]
  simp only [h, List.getElem?_eq_getElem, Option.toList_some]
  rw [List.nodup_append]
  refine ⟨hn, by simp, ?_⟩
  intro a ha b hb hab
  simp only [List.mem_singleton] at hb
  subst hb; subst hab
  exact hc ha
theorem not_nodup {l : List S} {i : Nat} (h : i < l.length) (hc : l[i] ∈ l.take i) : ¬ l.Nodup := by
  intro hn
  obtain ⟨j, hj, he⟩ := List.mem_iff_getElem.1 hc
  simp only [List.length_take] at hj
  rw [List.getElem_take] at he
  have := (List.getElem_inj (h₀ := by omega) (h₁ := h) hn).1 he
  omega

theorem ev_once (l : List S) : Ev TE 173 [strs l] (.bool (once l)) := by
  refine Ev.bnd fun hb => ?_
  have hlen := strs_len hb
  refine Ev.of_awp Tryz.func173 rfl (by simp [nts]) (vc_ok mixed _ _ _ _ ?_)
  simp only [sz.down, Nat.reduceLT, TEP, nts, Tryz.results173]
  refine awp_loop (fun m f h => ∃ i, m + i = l.length ∧ f.t 0 = strs l ∧ f.t 3 = .int .i64 (i : Int) ∧ f.d = [] ∧ (l.take i).Nodup) l.length ⟨0, by simp, rfl, rfl, rfl, by simp⟩ ?_
  rintro m f h ⟨i, hm, h0, h5, hd, hall⟩
  refine vc_ok mixed _ _ _ _ ?_
  simp only [sz.down, ↓reduceIte, Nat.reduceEqDiff, Nat.reduceLT, reduceCtorEq, TEP, tis, h0, h5]
  refine vcB.mk (fun hc => ?_) (fun hc => ?_)
  · simp only [decide_eq_true_eq, Int.ofNat_lt] at hc
    have hs : List.take i (List.map V.str l) = List.map V.str (l.take i) := (List.map_take ..).symm
    simp only [sz.down, ↓reduceIte, Nat.reduceEqDiff, Nat.reduceLT, Int.reduceLE, reduceCtorEq, TEP, tis, h0, h5, getS hc, hs]
    refine ⟨by decide +kernel, ⟨by omega, by omega⟩, ⟨by omega, by omega⟩, vcEv.mk (ev_has _ _) rfl rfl ?_⟩
    simp only [sz.down, ↓reduceIte]
    refine vcB.mk (fun hc' => ?_) (fun hc' => ?_)
    · simp only [sz.down, ↓reduceIte, Nat.reduceLT, TEP, hd]
      refine Reif.eq rfl ?_
      have := not_nodup hc (by simpa using hc')
      simp [once, this]
    · simp only [sz.down, ↓reduceIte, Nat.reduceEqDiff, Nat.reduceLT, TEP, h5, wrap_succ (show i < maxLen by omega)]
      exact .inl ⟨m - 1, by omega, i + 1, by omega, h0, rfl, hd, nodup_take hc hall (by simpa using hc')⟩
  · simp only [decide_eq_false_iff_not, Int.ofNat_lt] at hc
    simp only [sz.down, ↓reduceIte, Nat.reduceLT, TEP, hd]
    refine Reif.eq rfl ?_
    rw [List.take_of_length_le (by omega)] at hall
    simp [once, hall]

end Go.Proofs.YtboolnpmlmgpkaaGreatDoor

set_option linter.unusedVariables false
set_option maxRecDepth 20000
set_option linter.unusedSimpArgs false
set_option linter.unnecessarySimpa false
namespace Go.Proofs.YtboolnpmlmgpkaaGreatDoor
open Go Go.Proofs Go.Abs

def oddN (n : Int) : Bool := decide (n ≤ 32) || decide (126 < n)

theorem ev_odd (n : Int) : Ev TE 242 [.int .i32 n] (.bool (oddN n)) := by
  refine Ev.of_awp Tryz.func242 rfl (by simp [nts]) (vc_ok mixed _ _ _ _ ?_)
  simp only [sz.down, ↓reduceIte, Nat.reduceEqDiff, Nat.reduceLT, reduceCtorEq, TEP, nts, Tryz.results242]
  exact Reif.eq rfl rfl

theorem decV_ok {s : S} {i : Nat} (h : i < s.length) (hb : s[i].toNat < 128) : decV s i = (s[i].toNat, 1) := by
  unfold decV Utf8.decode
  have : ((ByteArray.mk s.toArray).get! (i + 0)).toNat = s[i].toNat := by
    simp [ByteArray.get!, h]
  simp only [this]
  rw [if_pos hb]

theorem decV_big {s : S} {i : Nat} (h : i < s.length) (hb : ¬ s[i].toNat < 128) : 128 ≤ (decV s i).1 := by
  unfold decV Utf8.decode
  have : ((ByteArray.mk s.toArray).get! (i + 0)).toNat = s[i].toNat := by
    simp [ByteArray.get!, h]
  simp only [this]
  rw [if_neg hb]
  repeat' split
  all_goals first
    | (simp [Utf8.runeError]; done)
    | (rename_i hc; simp only [Bool.and_eq_true, decide_eq_true_eq, ge_iff_le] at hc; dsimp only; omega)
    | (rename_i hc; simp only [ge_iff_le] at hc; dsimp only; omega)

theorem oddN_dec {s : S} {i : Nat} (h : i < s.length) : oddN (decV s i).1 = !okByte s[i] := by
  by_cases hb : s[i].toNat < 128
  · rw [decV_ok h hb]
    refine Bool.eq_iff_iff.2 ?_
    simp only [oddN, okByte, Bool.or_eq_true, decide_eq_true_eq, Bool.not_eq_true', Bool.and_eq_false_iff, decide_eq_false_iff_not]
    omega
  · have := decV_big h hb
    have h1 : oddN (decV s i).1 = true := by simp only [oddN, Bool.or_eq_true, decide_eq_true_eq]; omega
    have h2 : okByte s[i] = false := by simp only [okByte, Bool.and_eq_false_iff, decide_eq_false_iff_not]; omega
    rw [h1, h2]; rfl

/-- The first byte that no name has. -/
def badAt (s : S) : Option Nat := s.findIdx? fun c => !okByte c
def badN (s : S) : Int := match badAt s with | some i => i | none => -1

theorem badN_some {s : S} {i : Nat} (h : i < s.length) (hn : ∀ x ∈ s.take i, okByte x = true) (hb : okByte s[i] = false) : badN s = i := by
  have : badAt s = some i := by
    unfold badAt
    rw [List.findIdx?_eq_some_iff_getElem]
    refine ⟨h, by simp [hb], fun j hj => ?_⟩
    have : s[j] ∈ s.take i := by
      rw [List.mem_take_iff_getElem]
      exact ⟨j, by omega, rfl⟩
    simp [hn _ this]
  simp [badN, this]
theorem badN_none {s : S} (hn : ∀ x ∈ s, okByte x = true) : badN s = -1 := by
  have : badAt s = none := by
    unfold badAt
    rw [List.findIdx?_eq_none_iff]
    simpa using hn
  simp [badN, this]

theorem ev_ixf (s : S) : Ev TE 276 [.str s, .fn (.func 242) [] [], .bool true] (.int .i64 (badN s)) := by
  refine Ev.bnd fun hb => ?_
  have hlen : s.length ≤ maxLen := hb.1
  refine Ev.of_awp Tryz.func276 rfl (by simp [nts]) (vc_ok mixed _ _ _ _ ?_)
  simp only [sz.down, ↓reduceIte, Nat.reduceLT, Int.reduceNeg, reduceCtorEq, TEP, tis, nts, Tryz.results276]
  refine awp_loop (fun m f h => ∃ i, m + i = s.length ∧ f.t 1 = .fn (.func 242) [] [] ∧ f.t 2 = .bool true ∧ f.t 10 = .lp 0 0 ∧ f.d = [] ∧ h = [.misc (.siter s i)] ∧ ∀ x ∈ s.take i, okByte x = true) s.length ⟨0, by simp, rfl, rfl, rfl, rfl, rfl, by simp⟩ ?_
  rintro m f h ⟨i, hm, h1, h2, h10, hd, rfl, hall⟩
  refine vc_ok mixed _ _ _ _ ?_
  simp only [sz.down, Nat.reduceLT, Int.reduceNeg, h10]
  refine vcNext.mk (fun hc => ?_) (fun hc => ?_)
  · simp only [decide_eq_true_eq] at hc
    simp only [sz.down, ↓reduceIte, Nat.reduceEqDiff, Nat.reduceLT, Nat.reduceAdd, Int.reduceNeg, TEP, ens, h1, vcNext]
    refine ACalls.ev (ev_odd _) rfl ?_
    rw [oddN_dec hc]
    simp only [sz.down, ↓reduceIte, Nat.reduceEqDiff, Nat.reduceLT, Int.reduceNeg, TEP, tis, h2]
    refine vcB.mk (fun hc' => ?_) (fun hc' => ?_)
    · have hb : okByte s[i] = false := by simpa using hc'
      simp only [sz.down, ↓reduceIte, Nat.reduceEqDiff, Nat.reduceLT, Int.reduceNeg, TEP, hd]
      rw [badN_some hc hall hb]
      exact Reif.dat rfl
    · have hb : okByte s[i] = true := by simpa using hc'
      have h128 : s[i].toNat < 128 := by
        simp only [okByte, Bool.and_eq_true, decide_eq_true_eq] at hb
        omega
      simp only [sz.down, Int.reduceNeg]
      exact .inl ⟨m - 1, by omega, i + 1, by omega, h1, h2, h10, hd, by rw [decV_ok hc h128], mem_take_succ hc hall hb⟩
  · simp only [decide_eq_false_iff_not] at hc
    simp only [sz.down, ↓reduceIte, Nat.reduceLT, Int.reduceNeg, TEP, hd, vcNext]
    rw [List.take_of_length_le (by omega)] at hall
    rw [badN_none hall]
    exact Reif.dat rfl

theorem ev_ixF (s : S) : Ev TE 243 [.str s, .fn (.func 242) [] []] (.int .i64 (badN s)) := by
  refine Ev.of_awp Tryz.func243 rfl (by simp [nts]) (vc_ok mixed _ _ _ _ ?_)
  simp only [sz.down, ↓reduceIte, Nat.reduceEqDiff, Nat.reduceLT, reduceCtorEq, TEP, ens, nts, Tryz.results243]
  refine ACalls.ev (ev_ixf s) rfl ?_
  simp only [sz.down, ↓reduceIte, Nat.reduceLT, TEP]
  exact Reif.dat rfl

theorem badN_neg (s : S) : decide (badN s < 0) = s.all okByte := by
  cases h : s.all okByte with
  | true =>
    rw [badN_none (by simpa using h)]
    rfl
  | false =>
    have : ∃ x ∈ s, okByte x = false := by simpa using h
    cases hb : badAt s with
    | none =>
      obtain ⟨x, hx, hx2⟩ := this
      have := (List.findIdx?_eq_none_iff.1 hb) x hx
      simp [hx2] at this
    | some i => simp [badN, hb]

theorem ev_plain (s : S) : Ev TE 221 [.str s] (.bool (okName s)) := by
  refine Ev.of_awp Tryz.func221 rfl (by simp [nts]) (vc_ok mixed _ _ _ _ ?_)
  simp only [sz.down, ↓reduceIte, Nat.reduceEqDiff, Nat.reduceLT, Nat.reduceLeDiff, reduceCtorEq, TEP, tis, nts, Tryz.results221]
  refine effG.ev (q := 243) (vs := [.str s, .fn (.func 242) [] []]) (by simp only [sz.down, ↓reduceIte, Nat.reduceEqDiff]) (by simp only [sz.down, ↓reduceIte, Nat.reduceEqDiff]) rfl (fun _ => ev_ixF s) (fun _ => rfl) ?_
  simp only [sz.down, ↓reduceIte, Nat.reduceEqDiff, Nat.reduceLT, TEP]
  refine Reif.eq rfl ?_
  rw [badN_neg]
  unfold okName
  congr 1
  have h1 : (!s == []) = decide (1 ≤ s.length) := by cases s <;> simp
  have h2 : decide ((s.length : Int) ≤ 40) = decide (s.length ≤ 40) := decide_eq_decide.2 (by omega)
  rw [h1, h2, Bool.and_comm]

theorem ev_iname (s : S) : Ev TE 190 [.str s] (.bool (okName s)) := by
  refine Ev.of_awp Tryz.func190 rfl (by simp [nts]) (vc_ok mixed _ _ _ _ ?_)
  simp only [sz.down, ↓reduceIte, Nat.reduceLT, reduceCtorEq, TEP, ens, nts, Tryz.results190]
  refine ACalls.ev (ev_plain s) rfl ?_
  simp only [sz.down, ↓reduceIte, Nat.reduceLT, TEP]
  exact Reif.dat rfl

/-- The first text that is no name. -/
def oddAt (l : List S) : Int := match l.findIdx? fun s => !okName s with | some i => i | none => -1

theorem oddAt_some {l : List S} {i : Nat} (h : i < l.length) (hn : ∀ x ∈ l.take i, okName x = true) (hb : okName l[i] = false) : oddAt l = i := by
  have : l.findIdx? (fun s => !okName s) = some i := by
    rw [List.findIdx?_eq_some_iff_getElem]
    refine ⟨h, by simp [hb], fun j hj => ?_⟩
    have : l[j] ∈ l.take i := by
      rw [List.mem_take_iff_getElem]
      exact ⟨j, by omega, rfl⟩
    simp [hn _ this]
  simp [oddAt, this]
theorem oddAt_none {l : List S} (hn : ∀ x ∈ l, okName x = true) : oddAt l = -1 := by
  have : l.findIdx? (fun s => !okName s) = none := by
    rw [List.findIdx?_eq_none_iff]
    simpa using hn
  simp [oddAt, this]
theorem oddAt_has (l : List S) : decide (0 ≤ oddAt l) = !(l.all okName) := by
  cases h : l.all okName with
  | true =>
    rw [oddAt_none (by simpa using h)]
    rfl
  | false =>
    have : ∃ x ∈ l, okName x = false := by simpa using h
    unfold oddAt
    cases hb : l.findIdx? (fun s => !okName s) with
    | none =>
      obtain ⟨x, hx, hx2⟩ := this
      have := (List.findIdx?_eq_none_iff.1 hb) x hx
      simp [hx2] at this
    | some i => simp

end Go.Proofs.YtboolnpmlmgpkaaGreatDoor

set_option linter.unusedVariables false
set_option maxRecDepth 20000
set_option linter.unusedSimpArgs false
set_option linter.unnecessarySimpa false
namespace Go.Proofs.YtboolnpmlmgpkaaGreatDoor
open Go Go.Proofs Go.Abs
theorem callK_p {dst : Option Tmp} {Kn : Fr → H → Prop} {Q : XE → Fr → H → Prop} {f : Fr} {v : V} {h : H} {p : Nat → Bool} : callK dst Kn Q f (.ret v) h p = ((∀ i ∈ f.d, p i = false) ∧ Kn ((f.drop p).put dst v) h) := rfl
theorem allOne_b : ∀ l : List Bool, allOne (l.map V.bool) = true
  | [] => rfl
  | a :: l => by simp only [List.map_cons, allOne, allOne_b l, V.one]; rfl
theorem dats_b : ∀ l : List Bool, V.dats (l.map V.bool) = true
  | [] => rfl
  | a :: l => by simp only [List.map_cons, V.dats, V.dat, dats_b l, Bool.and_self]
theorem fit_b : ∀ l : List Bool, allFit 1 (l.map V.bool) = true
  | [] => rfl
  | a :: l => by simp only [List.map_cons, allFit, fit_b l, V.fit, V.vc, List.length_singleton]; rfl
theorem flat_b : ∀ l : List Bool, (l.map V.bool).flatMap V.vc = l.map V.bool
  | [] => rfl
  | a :: l => by simp only [List.map_cons, List.flatMap_cons, V.vc, flat_b l]; rfl
theorem drops_b {p : Nat → Bool} : ∀ l : List Bool, V.drops p (l.map V.bool) = l.map V.bool
  | [] => rfl
  | a :: l => by simp only [List.map_cons, V.drops, V.drop, drops_b l]
theorem dats_vi : ∀ l : Cl, V.dats (l.map vi) = true
  | [] => rfl
  | a :: l => by simp only [List.map_cons, V.dats, V.dat, dats_vi l, Bool.and_self]
theorem fit_vi : ∀ c : Cl, allFit 1 (c.map vi) = true
  | [] => rfl
  | a :: l => by simp only [List.map_cons, allFit, fit_vi l, V.fit, V.vc, List.length_singleton]; rfl
theorem flat_vi : ∀ c : Cl, (c.map vi).flatMap V.vc = c.map vi
  | [] => rfl
  | a :: l => by simp only [List.map_cons, List.flatMap_cons, V.vc, flat_vi l]; rfl
theorem drops_vi {p : Nat → Bool} : ∀ c : Cl, V.drops p (c.map vi) = c.map vi
  | [] => rfl
  | a :: l => by simp only [List.map_cons, V.drops, V.drop, drops_vi l]
theorem allOne_vi : ∀ l : Cl, allOne (l.map vi) = true
  | [] => rfl
  | a :: l => by simp only [List.map_cons, allOne, allOne_vi l, V.one]; rfl
theorem reif_bools {e : E} {h : H} {id len cap : Nat} {l : List Bool} (hc : h[id]? = some (.cells (l.map V.bool))) (hl : len = l.length) : Reif e h (.ls id 1 0 len cap) (bools l) :=
  Reif.ls hc (Reifs.dat (dats_b l)) (fit_b l) (flat_b l) (by simpa using hl)
theorem reif_ints {e : E} {h : H} {id len cap : Nat} {l : Cl} (hc : h[id]? = some (.cells (l.map vi))) (hl : len = l.length) : Reif e h (.ls id 1 0 len cap) (ints l) :=
  Reif.ls hc (Reifs.dat (dats_vi l)) (fit_vi l) (flat_vi l) (by simpa using hl)
end Go.Proofs.YtboolnpmlmgpkaaGreatDoor

set_option linter.unusedVariables false
set_option maxRecDepth 20000
set_option linter.unusedSimpArgs false
set_option linter.unnecessarySimpa false
namespace Go.Proofs.YtboolnpmlmgpkaaGreatDoor
open Go Go.Proofs Go.Abs

/-! ### Graphs -/
abbrev Pr := Int × Int
abbrev prV (p : Pr) : V := .agg [vi p.1, vi p.2]
abbrev prs (l : List Pr) : V := .is false 2 (l.map prV)
structure Gr where
  ins : Int
  next : Cl
  init : Cl
  ands : List Pr
  outs : Cl
abbrev Gr.v (g : Gr) : V := .agg [vi g.ins, ints g.next, ints g.init, prs g.ands, ints g.outs]
/-- The number of the first and. -/
def Gr.first (g : Gr) : Int := 1 + g.ins + g.next.length

theorem ev_ixN (c : Cl) (q : FuncId) (caps : List V) (p : Int → Bool) (he : enters P q = true) (hd : V.dats caps = true) (hq : ∀ x ∈ c, Ev TE q (vi x :: caps) (.bool (p x))) : Ev TE 203 [ints c, .fn (.func q) [] caps] (vi (idx c p)) := by
  refine Ev.bnd fun hb => ?_
  have hlen := ints_len hb
  refine Ev.of_awp Tryz.func203 rfl (by simp [nts]) (vc_ok mixed _ _ _ _ ?_)
  simp only [sz.down, ↓reduceIte, Nat.reduceLT, Int.reduceNeg, reduceCtorEq, TEP, tis, nts, Tryz.results203]
  refine awp_loop (fun m f h => ∃ i, m + i = c.length ∧ f.t 0 = ints c ∧ f.t 1 = .fn (.func q) [] caps ∧ f.t 7 = .int .i64 (c.length : Int) ∧ f.t 8 = .int .i64 (i : Int) ∧ f.d = [] ∧ ∀ x ∈ c.take i, p x = false) c.length ⟨0, by simp, rfl, rfl, rfl, rfl, rfl, by simp⟩ ?_
  rintro m f h ⟨i, hm, h0, h1, h7, h8, hdd, hall⟩
  refine vc_ok mixed _ _ _ _ ?_
  simp only [sz.down, ↓reduceIte, Nat.reduceLT, Int.reduceNeg, TEP, h7, h8]
  refine vcB.mk (fun hc => ?_) (fun hc => ?_)
  · simp only [decide_eq_true_eq, Int.ofNat_lt] at hc
    simp only [sz.down, ↓reduceIte, Nat.reduceEqDiff, Nat.reduceLT, Int.reduceNeg, reduceCtorEq, TEP, tis, h0, h1, h8, getI hc, he]
    refine ⟨⟨by omega, by omega⟩, ACalls.ev (hq _ (List.getElem_mem _)) (by simp [V.dats, V.dat, hd]) ?_⟩
    simp only [sz.down, ↓reduceIte, Int.reduceNeg]
    refine vcB.mk (fun hc' => ?_) (fun hc' => ?_)
    · simp only [sz.down, ↓reduceIte, Nat.reduceEqDiff, Nat.reduceLT, Int.reduceNeg, TEP, hdd]
      rw [idx_some hc hall hc']
      exact Reif.dat rfl
    · simp only [sz.down, ↓reduceIte, Nat.reduceEqDiff, Nat.reduceLT, Int.reduceNeg, TEP, h8, wrap_succ (show i < maxLen by omega)]
      exact .inl ⟨m - 1, by omega, i + 1, by omega, h0, h1, h7, rfl, hdd, mem_take_succ hc hall hc'⟩
  · simp only [decide_eq_false_iff_not, Int.ofNat_lt] at hc
    simp only [sz.down, ↓reduceIte, Nat.reduceLT, Int.reduceNeg, TEP, hdd]
    rw [List.take_of_length_le (by omega)] at hall
    rw [idx_none hall]
    exact Reif.dat rfl

theorem ev_first (g : Gr) (h0 : -1000000000 ≤ g.ins) (h1 : g.ins ≤ 1000000000) (h2 : g.next.length ≤ 1000000000) : Ev TE 92 [g.v] (vi g.first) := by
  unfold Gr.v Gr.first
  refine Ev.of_awp Tryz.func92 rfl (by simp [nts]) (vc_ok mixed _ _ _ _ ?_)
  simp only [sz.down, ↓reduceIte, Nat.reduceEqDiff, Nat.reduceLT, Nat.reduceLeDiff, Nat.reduceAdd, TEP, tis, nts, Tryz.results92]
  rw [wrapn (n := 1 + g.ins) (by omega) (by omega), wrapn (by omega) (by omega)]
  exact Reif.dat rfl

theorem ev_ctN (c : Cl) (q : FuncId) (caps : List V) (p : Int → Bool) (he : enters P q = true) (hd : V.dats caps = true) (hq : ∀ x ∈ c, Ev TE q (vi x :: caps) (.bool (p x))) : Ev TE 164 [ints c, .fn (.func q) [] caps] (.bool (c.any p)) := by
  refine Ev.of_awp Tryz.func164 rfl (by simp [nts]) (vc_ok mixed _ _ _ _ ?_)
  simp only [sz.down, ↓reduceIte, Nat.reduceEqDiff, Nat.reduceLT, reduceCtorEq, TEP, ens, nts, Tryz.results164]
  refine ACalls.ev (ev_ixN c q caps p he hd hq) (by simp [V.dats, V.dat, hd]) ?_
  simp only [sz.down, ↓reduceIte, Nat.reduceLT, TEP]
  exact Reif.eq rfl (by rw [idx_has])

/-- Is a literal none? -/
def oddL (all a : Int) : Bool := decide (a < 0) || decide (all ≤ a)
theorem ev_oddL (all a : Int) : Ev TE 162 [vi a, .ip (vi all)] (.bool (oddL all a)) := by
  refine Ev.of_awp Tryz.func162 rfl (by simp [nts]) (vc_ok mixed _ _ _ _ ?_)
  simp only [sz.down, ↓reduceIte, Nat.reduceEqDiff, Nat.reduceLT, reduceCtorEq, TEP, tis, nts, Tryz.results162]
  exact Reif.eq rfl rfl
/-- Is a beginning none? -/
def oddB (a : Int) : Bool := decide (a < 0) || decide (2 < a)
theorem ev_oddB (a : Int) : Ev TE 163 [vi a] (.bool (oddB a)) := by
  refine Ev.of_awp Tryz.func163 rfl (by simp [nts]) (vc_ok mixed _ _ _ _ ?_)
  simp only [sz.down, ↓reduceIte, Nat.reduceEqDiff, Nat.reduceLT, reduceCtorEq, TEP, nts, Tryz.results163]
  exact Reif.eq rfl rfl

end Go.Proofs.YtboolnpmlmgpkaaGreatDoor

set_option linter.unusedVariables false
set_option maxRecDepth 20000
set_option linter.unusedSimpArgs false
set_option linter.unnecessarySimpa false
namespace Go.Proofs.YtboolnpmlmgpkaaGreatDoor
open Go Go.Proofs Go.Abs

def Gr.all (g : Gr) : Int := 2 * (g.first + g.ands.length)
/-- Is an and none? -/
def oddA (own : Int) (p : Pr) : Bool := decide (p.1 < 0) || decide (p.2 < 0) || decide (own ≤ p.1) || decide (own ≤ p.2)
def Gr.lim (g : Gr) : Bool := decide (g.ins < 0) || decide (4000 < g.ins) || decide (4000 < g.ins + g.next.length + g.ands.length) || decide (4000 < (g.outs.length : Int))
def Gr.oddR (g : Gr) : Bool := (g.init.length != g.next.length) || g.init.any oddB || g.next.any (oddL g.all) || g.outs.any (oddL g.all)
def Gr.oddAs (g : Gr) (n : Nat) : Bool := (List.range n).any fun i => oddA (2 * (g.first + i)) (g.ands.getD i (0, 0))
def Gr.chk (g : Gr) : Int := if g.lim then 8 else if g.oddR then 1 else if g.oddAs g.ands.length then 1 else 0

structure Gr.Sm (g : Gr) : Prop where
  next : g.next.length ≤ 200000000000000
  ands : g.ands.length ≤ 200000000000000

def planK : Plan := .take 2 <| .alt 0 (.alt 1 (.alt 3 (.alt 4 (.alt 5 (.alt 6 (.one 7 <| .one 8 <| .fin) (.one 7 (.one 6 <| .one 8 <| .fin))) (.one 7 (.one 5 <| .one 6 <| .one 8 <| .fin))) (.one 7 (.one 4 <| .one 5 <| .one 6 <| .one 8 <| .fin))) (.one 7 (.one 3 <| .one 4 <| .one 5 <| .one 6 <| .one 8 <| .fin))) (.alt 3 (.alt 1 (.alt 4 (.alt 5 (.alt 6 (.one 7 <| .one 8 <| .fin) (.one 7 (.one 6 <| .one 8 <| .fin))) (.one 7 (.one 5 <| .one 6 <| .one 8 <| .fin))) (.one 7 (.one 4 <| .one 5 <| .one 6 <| .one 8 <| .fin))) (.alt 4 (.alt 1 (.alt 5 (.alt 6 (.one 7 <| .one 8 <| .fin) (.one 7 (.one 6 <| .one 8 <| .fin))) (.one 7 (.one 5 <| .one 6 <| .one 8 <| .fin))) (.one 7 (.one 1 <| .one 5 <| .one 6 <| .one 8 <| .fin))) (.one 7 (.alt 1 (.one 4 <| .one 5 <| .one 6 <| .one 8 <| .fin) (.one 4 (.one 1 <| .one 5 <| .one 6 <| .one 8 <| .fin)))))) (.one 7 (.alt 1 (.one 3 <| .one 4 <| .one 5 <| .one 6 <| .one 8 <| .fin) (.one 3 (.alt 1 (.one 4 <| .one 5 <| .one 6 <| .one 8 <| .fin) (.one 4 (.one 1 <| .one 5 <| .one 6 <| .one 8 <| .fin)))))))) (.alt 3 (.alt 0 (.alt 1 (.alt 4 (.alt 5 (.alt 6 (.one 7 <| .one 8 <| .fin) (.one 7 (.one 6 <| .one 8 <| .fin))) (.one 7 (.one 5 <| .one 6 <| .one 8 <| .fin))) (.one 7 (.one 4 <| .one 5 <| .one 6 <| .one 8 <| .fin))) (.alt 4 (.alt 1 (.alt 5 (.alt 6 (.one 7 <| .one 8 <| .fin) (.one 7 (.one 6 <| .one 8 <| .fin))) (.one 7 (.one 5 <| .one 6 <| .one 8 <| .fin))) (.one 7 (.one 1 <| .one 5 <| .one 6 <| .one 8 <| .fin))) (.one 7 (.alt 1 (.one 4 <| .one 5 <| .one 6 <| .one 8 <| .fin) (.one 4 (.one 1 <| .one 5 <| .one 6 <| .one 8 <| .fin)))))) (.alt 4 (.alt 0 (.alt 1 (.alt 5 (.alt 6 (.one 7 <| .one 8 <| .fin) (.one 7 (.one 6 <| .one 8 <| .fin))) (.one 7 (.one 5 <| .one 6 <| .one 8 <| .fin))) (.one 7 (.one 1 <| .one 5 <| .one 6 <| .one 8 <| .fin))) (.one 7 (.one 0 <| .one 1 <| .one 5 <| .one 6 <| .one 8 <| .fin))) (.one 7 (.alt 0 (.alt 1 (.one 4 <| .one 5 <| .one 6 <| .one 8 <| .fin) (.one 4 (.one 1 <| .one 5 <| .one 6 <| .one 8 <| .fin))) (.one 4 (.one 0 <| .one 1 <| .one 5 <| .one 6 <| .one 8 <| .fin)))))) (.one 7 (.alt 0 (.alt 1 (.one 3 <| .one 4 <| .one 5 <| .one 6 <| .one 8 <| .fin) (.one 3 (.alt 1 (.one 4 <| .one 5 <| .one 6 <| .one 8 <| .fin) (.one 4 (.one 1 <| .one 5 <| .one 6 <| .one 8 <| .fin))))) (.one 3 (.alt 0 (.alt 1 (.one 4 <| .one 5 <| .one 6 <| .one 8 <| .fin) (.one 4 (.one 1 <| .one 5 <| .one 6 <| .one 8 <| .fin))) (.one 4 (.one 0 <| .one 1 <| .one 5 <| .one 6 <| .one 8 <| .fin)))))))

set_option maxHeartbeats 8000000 in
theorem ev_grCheck (g : Gr) (hs : g.Sm) : Ev TE 86 [g.v] (vi g.chk) := by
  obtain ⟨hs1, hs2⟩ := hs
  unfold Gr.v
  refine Ev.of_awp Tryz.func86 rfl (by simp [nts]) (vc_ok mixed _ _ _ _ ?_)
  simp only [sz.down, ↓reduceIte, Nat.reduceEqDiff, Nat.reduceLT, Nat.reduceLeDiff, Nat.reduceAdd, TEP, tis, nts, Tryz.results86]
  have hins : g.lim = false → 0 ≤ g.ins ∧ g.ins ≤ 4000 ∧ g.ins + g.next.length + g.ands.length ≤ 4000 ∧ (g.outs.length : Int) ≤ 4000 := by
    intro h
    simp only [Gr.lim, Bool.or_eq_false_iff, decide_eq_false_iff_not] at h
    omega
  have hl : (decide (g.ins < 0) || decide (4000 < g.ins) || decide (4000 < IntKind.i64.wrap (IntKind.i64.wrap (g.ins + (g.next.length : Int)) + (g.ands.length : Int))) || decide (4000 < (g.outs.length : Int))) = g.lim := by
    unfold Gr.lim
    by_cases a1 : g.ins < 0
    · simp [a1]
    by_cases a2 : 4000 < g.ins
    · simp [a2]
    rw [wrapn (n := g.ins + (g.next.length : Int)) (by omega) (by omega), wrapn (by omega) (by omega)]
  rw [hl]
  refine vcB.mk (fun hc => ?_) (fun hc => ?_)
  · simp only [sz.down, ↓reduceIte, Nat.reduceLT, TEP]
    exact Reif.eq rfl (by unfold Gr.chk; rw [if_pos hc])
  · obtain ⟨i0, i1, i2, i3⟩ := hins hc
    simp only [sz.down]
    refine awp_plan mixed planK (fun f' h' => f'.t 1 = .lp 0 0 ∧ f'.t 3 = .lp 1 0 ∧ f'.d = [] ∧ h' = [.cells [vi g.ins, ints g.next, ints g.init, prs g.ands, ints g.outs], .cells [vi g.all]]) (by decide +kernel) (by decide +kernel) ?_ ?_
    · simp only [sz.down, ↓reduceIte, Nat.reduceEqDiff, Nat.reduceLT, Nat.reduceLeDiff, Nat.reduceAdd, reduceCtorEq, TEP, tis, ens, planK]
      have wf : g.first = 1 + g.ins + g.next.length := rfl
      have w1 : IntKind.i64.wrap (g.first + (g.ands.length : Int)) = g.first + g.ands.length := wrapn (by omega) (by omega)
      have w2 : IntKind.i64.wrap (2 * (g.first + (g.ands.length : Int))) = g.all := wrapn (by omega) (by omega)
      have hfi := ev_first g (by omega) (by omega) (by omega)
      unfold Gr.v at hfi
      have dg : V.dats [.agg [vi g.ins, ints g.next, ints g.init, prs g.ands, ints g.outs]] = true := by simp only [V.dats, V.dat, Bool.and_self]
      repeat' apply And.intro
      all_goals (refine ACalls.ev hfi dg ?_)
      all_goals (simp only [sz.down, ↓reduceIte, Nat.reduceEqDiff, Nat.reduceLT, Nat.reduceLeDiff, Nat.reduceAdd, TEP, tis, w1, w2])
      all_goals (first | exact ⟨rfl, rfl, rfl, rfl⟩ | trace_state)
    · rintro f h ⟨h1, h3, hd, rfl⟩
      have hlim : g.lim = false := hc
      have fin1 : g.oddR = true → Reif TE [.cells [vi g.ins, ints g.next, ints g.init, prs g.ands, ints g.outs], .cells [vi g.all]] (vi 1) (vi g.chk) := fun h => Reif.eq rfl (by unfold Gr.chk; rw [hlim, h]; rfl)
      by_cases e : g.init.length = g.next.length
      · have e1 : ((g.init.length : Int) != (g.next.length : Int)) = false := by simp [e]
        simp only [sz.down, ↓reduceIte, Nat.reduceEqDiff, Nat.reduceLT, Nat.reduceLeDiff, Nat.reduceAdd, TEP, tis, ens, h1, h3, e1]
        refine ACalls.ev (ev_ctN g.init 163 [] oddB rfl rfl fun x _ => ev_oddB x) rfl ?_
        cases hA : g.init.any oddB with
        | true =>
          simp only [sz.down, ↓reduceIte, Nat.reduceEqDiff, Nat.reduceLT, Nat.reduceLeDiff, Nat.reduceAdd, reduceCtorEq, TEP, tis, h1]
          refine ⟨.bool true, ?_⟩
          simp only [sz.down, ↓reduceIte, Nat.reduceEqDiff, Nat.reduceLT, reduceCtorEq, TEP]
          refine ⟨.bool true, ?_⟩
          simp only [sz.down, ↓reduceIte, Nat.reduceLT, TEP, hd]
          exact fin1 (by simp [Gr.oddR, hA])
        | false =>
          simp only [sz.down, ↓reduceIte, Nat.reduceEqDiff, Nat.reduceLT, Nat.reduceLeDiff, Nat.reduceAdd, TEP, tis, ens, h1]
          have rf : Reifs TE [.cells [vi g.ins, ints g.next, ints g.init, prs g.ands, ints g.outs], .cells [vi g.all]] [.fn (.func 162) [] [.lp 1 0]] [.fn (.func 162) [] [.ip (vi g.all)]] :=
            Reifs.cons (Reif.fn Reifs.nil (Reifs.cons (Reif.lp rfl (Reifs.dat rfl) rfl rfl (by simp [V.vc]) rfl) Reifs.nil)) Reifs.nil
          refine ACalls.lend (ev_ctN g.next 162 [.ip (vi g.all)] (oddL g.all) rfl rfl fun x _ => ev_oddL g.all x) (Reifs.cons (Reif.dat rfl) rf) rfl ?_
          cases hB : g.next.any (oddL g.all) with
          | true =>
            simp only [sz.down, ↓reduceIte, Nat.reduceEqDiff, Nat.reduceLT, Nat.reduceAdd, reduceCtorEq, TEP, tis, h1]
            refine ⟨.bool true, ?_⟩
            simp only [sz.down, ↓reduceIte, Nat.reduceLT, TEP, hd]
            exact fin1 (by simp [Gr.oddR, hB])
          | false =>
            simp only [sz.down, ↓reduceIte, Nat.reduceEqDiff, Nat.reduceLT, Nat.reduceAdd, TEP, tis, ens, h1]
            refine ACalls.lend (ev_ctN g.outs 162 [.ip (vi g.all)] (oddL g.all) rfl rfl fun x _ => ev_oddL g.all x) (Reifs.cons (Reif.dat rfl) rf) rfl ?_
            cases hC : g.outs.any (oddL g.all) with
            | true =>
              simp only [sz.down, ↓reduceIte, Nat.reduceEqDiff, Nat.reduceLT, TEP, hd]
              exact fin1 (by simp [Gr.oddR, hC])
            | false =>
              simp only [sz.down, ↓reduceIte, Nat.reduceEqDiff, Nat.reduceLT, Nat.reduceLeDiff, Nat.reduceAdd, TEP, tis, h1]
              refine awp_loop (fun m f h => ∃ i G, m + i = g.ands.length ∧ f.t 1 = .lp 0 0 ∧ f.t 70 = prs g.ands ∧ f.t 71 = vi g.ands.length ∧ f.t 72 = vi i ∧ f.d = [] ∧ h = [.cells [vi g.ins, ints g.next, ints g.init, prs g.ands, ints g.outs], .cells [vi g.all]] ++ G ∧ g.oddAs i = false) g.ands.length ⟨0, [], by simp, by simp only [sz.down, ↓reduceIte, Nat.reduceEqDiff, h1], by simp only [sz.down, ↓reduceIte, Nat.reduceEqDiff], by simp only [sz.down, ↓reduceIte, Nat.reduceEqDiff], rfl, by simp only [sz.down, hd], by simp, rfl⟩ ?_
              rintro m f h ⟨i, G, hm, h1, h70, h71, h72, hd, rfl, hno⟩
              refine vc_ok mixed _ _ _ _ ?_
              simp only [sz.down, ↓reduceIte, Nat.reduceLT, TEP, h71, h72]
              refine vcB.mk (fun hlt => ?_) (fun hlt => ?_)
              · simp only [decide_eq_true_eq, Int.ofNat_lt] at hlt
                have hg : (g.ands.map prV).getD i .any = prV g.ands[i] := getD_map hlt _
                have hM : maxLen = 9223372036854775807 := rfl
                have hgE : ∀ x : O, (G ++ [x])[G.length]? = some x := fun x => by simp
                have hgS : ∀ x y : O, (G ++ [x]).set G.length y = G ++ [y] := fun x y => by simp
                have dg : V.dats [.agg [vi g.ins, ints g.next, ints g.init, prs g.ands, ints g.outs]] = true := by simp only [V.dats, V.dat, Bool.and_self]
                have wf : g.first = 1 + g.ins + g.next.length := rfl
                have w1 : IntKind.i64.wrap (g.first + (i : Int)) = g.first + i := wrapn (by omega) (by omega)
                have w2 : IntKind.i64.wrap (2 * (g.first + (i : Int))) = 2 * (g.first + i) := wrapn (by omega) (by omega)
                have hfi := ev_first g (by omega) (by omega) (by omega)
                unfold Gr.v at hfi
                simp only [sz.down, ↓reduceIte, Nat.reduceEqDiff, Nat.reduceLT, Nat.reduceAdd, reduceCtorEq, TEP, tis, ens, h1, h70, h72, hg, hgE, hgS]
                refine ⟨⟨by omega, by omega⟩, ACalls.ev hfi dg ?_⟩
                simp only [sz.down, ↓reduceIte, Nat.reduceEqDiff, Nat.reduceLT, Nat.reduceLeDiff, Nat.reduceAdd, Int.reduceToNat, Int.reduceLE, Nat.reduceMul, TEP, tis, w1, w2, hgE]
                refine ⟨by decide, fun _ => by decide, fun _ => by decide, fun _ => by decide, vcB.mk (fun hb => ?_) (fun hb => ?_)⟩
                · simp only [sz.down, ↓reduceIte, Nat.reduceLT, TEP, hd]
                  refine Reif.eq rfl ?_
                  unfold Gr.chk
                  rw [hlim, if_neg (by simp), if_neg (by simp [Gr.oddR, e, hA, hB, hC]), if_pos]
                  simp only [Gr.oddAs, List.any_eq_true, List.mem_range]
                  refine ⟨i, hlt, ?_⟩
                  rw [getD_at hlt]
                  exact hb
                · simp only [sz.down, ↓reduceIte, Nat.reduceEqDiff, Nat.reduceLT, TEP, h72, wrap_succ (show i < maxLen by omega)]
                  refine .inl ⟨m - 1, by omega, i + 1, G ++ [.cells [vi g.ands[i].1, vi g.ands[i].2]], by omega, h1, h70, h71, rfl, hd, rfl, ?_⟩
                  simp only [Gr.oddAs, List.range_succ, List.any_append, List.any_cons, List.any_nil, Bool.or_false, Bool.or_eq_false_iff]
                  refine ⟨hno, ?_⟩
                  rw [getD_at hlt]
                  exact hb
              · simp only [decide_eq_false_iff_not, Int.ofNat_lt] at hlt
                simp only [sz.down, ↓reduceIte, Nat.reduceLT, TEP, hd]
                have hi : i = g.ands.length := by omega
                refine Reif.eq rfl ?_
                unfold Gr.chk
                rw [hlim, if_neg (by simp), if_neg (by simp [Gr.oddR, e, hA, hB, hC]), ← hi, hno]
                rfl
      · have e1 : ((g.init.length : Int) != (g.next.length : Int)) = true := by simpa [Int.natCast_inj] using e
        simp only [sz.down, ↓reduceIte, Nat.reduceEqDiff, Nat.reduceLT, Nat.reduceLeDiff, Nat.reduceAdd, reduceCtorEq, TEP, tis, h1, h3, e1]
        refine ⟨.bool true, ?_⟩
        simp only [sz.down, ↓reduceIte, Nat.reduceEqDiff, Nat.reduceLT, Nat.reduceAdd, reduceCtorEq, TEP, tis, h1]
        refine ⟨.bool true, ?_⟩
        simp only [sz.down, ↓reduceIte, Nat.reduceEqDiff, Nat.reduceLT, reduceCtorEq, TEP]
        refine ⟨.bool true, ?_⟩
        simp only [sz.down, ↓reduceIte, Nat.reduceLT, TEP, hd]
        exact fin1 (by simp [Gr.oddR, e])

end Go.Proofs.YtboolnpmlmgpkaaGreatDoor
