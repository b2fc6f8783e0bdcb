/- Functions of the program, part 12. -/
import Derived.Test.YtajcfppemkdomaaF11
import Derived.Test.YtajcfppemkdomaaA8
import Derived.Test.YtajcfppemkdomaaRows
set_option linter.unusedVariables false
set_option linter.unusedSimpArgs false
set_option linter.unnecessarySimpa false
namespace Go.Proofs.Ytajcfppemkdomaa
open Go Go.Proofs Go.Abs

theorem ev_SolveLuby (i k : Int) (hk0 : 0 ≤ k) (hk1 : k ≤ 255) : Ev TE 4 [vi i, .int .u8 k] (.bool true) := by
  obtain ⟨k, rfl⟩ : ∃ m : Nat, k = m := ⟨k.toNat, by omega⟩
  refine Ev.of_awp Try.func4 rfl (by simp [nts]) (vc_ok mixed _ _ _ _ ?_)
  simp only [sz.down, Nat.reduceLT, TEP, ens, nts, Try.results4]
  refine ACalls.ev ev_works rfl ?_
  simp only [sz.down, ↓reduceIte, Nat.reduceLT, reduceCtorEq, TEP, ens]
  refine ACalls.ev (luby_ev i) rfl ?_
  simp only [sz.down, ↓reduceIte, Nat.reduceLT, reduceCtorEq, TEP, ens]
  refine ACalls.ev (rluby_ev _ i (Nat.le_refl _)) rfl ?_
  simp only [sz.down, ↓reduceIte, Nat.reduceEqDiff, Nat.reduceLT, TEP, ens]
  have w0 : IntKind.u8.wrap ((k : Int).tmod 31 + 1) = ((k % 31 + 1 : Nat) : Int) := by
    have : (k : Int).tmod 31 = ((k % 31 : Nat) : Int) := by rw [Int.tmod_eq_emod_of_nonneg (by omega)]; omega
    rw [this]
    have h3 : ((k % 31 : Nat) : Int) + 1 = ((k % 31 + 1 : Nat) : Int) := by omega
    rw [h3]
    unfold IntKind.wrap
    simp only [IntKind.bits, IntKind.signed]
    have : k % 31 < 31 := Nat.mod_lt _ (by omega)
    simp
    omega
  obtain ⟨e, he, he31⟩ : ∃ e, k % 31 = e ∧ e < 31 := ⟨_, rfl, Nat.mod_lt _ (by omega)⟩
  rw [he] at w0
  have hmin : min (((e + 1 : Nat) : Int)).toNat IntKind.i64.bits = e + 1 := by
    simp only [IntKind.bits, Int.toNat_natCast]; omega
  have hp : 2 ^ (e + 1) ≤ 2 ^ 31 := Nat.pow_le_pow_right (by omega) (by omega)
  have hp0 := Nat.two_pow_pos e
  have w1 : IntKind.i64.wrap (1 * 2 ^ (e + 1)) = ((2 ^ (e + 1) : Nat) : Int) := by
    have : (1 * 2 ^ (e + 1) : Int) = ((2 ^ (e + 1) : Nat) : Int) := by rw [Int.one_mul]; push_cast; rfl
    rw [this, wrap64 (by omega) (by omega)]
  have w2 : IntKind.i64.wrap (((2 ^ (e + 1) : Nat) : Int) - 1) = ((2 ^ (e + 1) - 1 : Nat) : Int) := by
    rw [Nat.pow_succ] at *
    rw [wrap64 (by omega) (by omega)]; omega
  have hl : lubV ((2 ^ (e + 1) - 1 : Nat) : Int) = ((2 ^ e : Nat) : Int) := by
    unfold lubV
    rw [if_neg (by rw [Nat.pow_succ] at *; omega), Int.toNat_natCast, lub_top]
  rw [w0, hmin, w1, w2]
  refine ⟨by decide, by omega, ACalls.ev (luby_ev _) rfl ?_⟩
  rw [hl]
  have hq : ((2 ^ (e + 1) : Nat) : Int).tdiv 2 = ((2 ^ e : Nat) : Int) := by
    rw [Int.tdiv_eq_ediv_of_nonneg (by omega), Nat.pow_succ]; omega
  have w3 : IntKind.i64.wrap ((2 ^ e : Nat) : Int) = ((2 ^ e : Nat) : Int) := wrap64 (by omega) (by rw [Nat.pow_succ] at *; omega)
  simp only [sz.down, ↓reduceIte, Nat.reduceEqDiff, Nat.reduceLT, reduceCtorEq, TEP, hq, w3]
  refine ⟨by decide, Reif.eq rfl ?_⟩
  have key : lubV i = 0 ∨ ∃ m, m < 31 ∧ lubV i = ((2 ^ m : Nat) : Int) := by
    unfold lubV
    split
    · exact .inl rfl
    · obtain ⟨m, h1, h2⟩ := lub_pow i.toNat i.toNat (by omega) (Nat.le_refl _)
      refine .inr ⟨m, ?_, by rw [h1]⟩
      by_cases hm : m < 31
      · exact hm
      · have := Nat.pow_le_pow_right (n := 2) (by omega) (show 31 ≤ m by omega)
        omega
  rcases key with h | ⟨m, hm, h⟩
  · simp [h]
  · have hb : ∀ m : _root_.Fin 31, (IntKind.i64.wrap ((BitVec.ofInt IntKind.i64.bits ((2 ^ m.val : Nat) : Int) &&& BitVec.ofInt IntKind.i64.bits (IntKind.i64.wrap (((2 ^ m.val : Nat) : Int) - 1))).toNat : Int) == 0) = true := by decide +kernel
    have := hb ⟨m, hm⟩
    rw [h]
    simp only [this, Bool.or_true]

end Go.Proofs.Ytajcfppemkdomaa

set_option linter.unusedVariables false
set_option linter.unusedSimpArgs false
set_option linter.unnecessarySimpa false
namespace Go.Proofs.Ytajcfppemkdomaa
open Go Go.Proofs Go.Abs

theorem own : ownKnob Try.prog.godebug = none := by kernel_rfl
theorem laid : laidOutB Try.prog = true := by kernel_rfl

abbrev shCl : Sh := .slice (.int .i64)
abbrev shCls : Sh := .slice shCl
abbrev shAns : Sh := .struct [.int .i64, .slice .bool, .int .i64, shCls]

theorem is_ints {v : V} (h : Sh.Is shCl v) : ∃ c : Cl, v = ints c := by
  simp only [Sh.Is] at h
  obtain ⟨es, rfl, h⟩ := h
  suffices ∃ c : Cl, es = c.map vi by
    obtain ⟨c, rfl⟩ := this
    exact ⟨c, rfl⟩
  induction es with
  | nil => exact ⟨[], rfl⟩
  | cons e es ih =>
    obtain ⟨s, rfl, _⟩ := h e (by simp)
    obtain ⟨c, rfl⟩ := ih fun x hx => h x (by simp [hx])
    exact ⟨s :: c, rfl⟩

theorem is_cls {v : V} (h : Sh.Is shCls v) : ∃ l : List Cl, v = cls l := by
  unfold shCls at h
  rw [Sh.Is] at h
  obtain ⟨es, rfl, h⟩ := h
  suffices ∃ l : List Cl, es = l.map fun c => ints c by
    obtain ⟨l, rfl⟩ := this
    exact ⟨l, rfl⟩
  induction es with
  | nil => exact ⟨[], rfl⟩
  | cons e es ih =>
    obtain ⟨c, rfl⟩ := is_ints (h e (by simp))
    obtain ⟨l, rfl⟩ := ih fun x hx => h x (by simp [hx])
    exact ⟨c :: l, rfl⟩

theorem is_int {v : V} (h : Sh.Is (.int .i64) v) : ∃ n : Int, v = vi n ∧ -9223372036854775808 ≤ n ∧ n < 9223372036854775808 := by
  obtain ⟨n, rfl, hw⟩ := h
  refine ⟨n, rfl, ?_⟩
  simp [Lit.wf, IntKind.min, IntKind.max, IntKind.signed, IntKind.bits] at hw
  omega

theorem is_u8 {v : V} (h : Sh.Is (.int .u8) v) : ∃ n : Int, v = .int .u8 n ∧ 0 ≤ n ∧ n ≤ 255 := by
  obtain ⟨n, rfl, hw⟩ := h
  refine ⟨n, rfl, ?_⟩
  simp [Lit.wf, IntKind.min, IntKind.max, IntKind.signed, IntKind.bits] at hw
  omega

theorem is_bools {v : V} (h : Sh.Is (.slice .bool) v) : ∃ l : List Bool, v = bools l := by
  simp only [Sh.Is] at h
  obtain ⟨es, rfl, h⟩ := h
  suffices ∃ l : List Bool, es = l.map V.bool by
    obtain ⟨l, rfl⟩ := this
    exact ⟨l, rfl⟩
  induction es with
  | nil => exact ⟨[], rfl⟩
  | cons e es ih =>
    obtain ⟨s, rfl⟩ := h e (by simp)
    obtain ⟨c, rfl⟩ := ih fun x hx => h x (by simp [hx])
    exact ⟨s :: c, rfl⟩

theorem is_ans {v : V} (h : Sh.Is shAns v) : ∃ a : Ans, v = a.v := by
  unfold shAns at h
  rw [Sh.Is] at h
  obtain ⟨vs, rfl, h⟩ := h
  rw [Sh.Iss] at h
  obtain ⟨u0, us, rfl, h0, h⟩ := h
  rw [Sh.Iss] at h
  obtain ⟨u1, us, rfl, h1, h⟩ := h
  rw [Sh.Iss] at h
  obtain ⟨u2, us, rfl, h2, h⟩ := h
  rw [Sh.Iss] at h
  obtain ⟨u3, us, rfl, h3, h⟩ := h
  rw [Sh.Iss] at h
  subst h
  obtain ⟨x0, rfl, _⟩ := is_int h0
  obtain ⟨x1, rfl⟩ := is_bools h1
  obtain ⟨x2, rfl, _⟩ := is_int h2
  obtain ⟨x3, rfl⟩ := is_cls h3
  exact ⟨⟨x0, x1, x2, x3⟩, rfl⟩

end Go.Proofs.Ytajcfppemkdomaa
