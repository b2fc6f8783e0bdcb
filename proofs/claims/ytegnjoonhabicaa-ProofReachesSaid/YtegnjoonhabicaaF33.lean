/- Functions of the program, part 33. -/
import Derived.Test.YtegnjoonhabicaaF31
import Derived.Test.YtegnjoonhabicaaA8
import Derived.Test.YtegnjoonhabicaaRows
set_option linter.unusedVariables false
set_option linter.unusedSimpArgs false
set_option linter.unnecessarySimpa false
namespace Go.Proofs.Ytegnjoonhabicaa
open Go Go.Proofs Go.Abs

theorem own : ownKnob Try.prog.godebug = none := by kernel_rfl
theorem laid : laidOutB Try.prog = true := by kernel_rfl

abbrev shCl : Sh := .slice (.int .i64)
abbrev shCls : Sh := .slice shCl

theorem is_ints {v : V} (h : Sh.Is shCl v) : ∃ c : Cl, v = ints c := by
  simp only [Sh.Is] at h
  obtain ⟨es, rfl, h⟩ := h
  suffices ∃ c : Cl, es = c.map vi by
    obtain ⟨c, rfl⟩ := this
    exact ⟨c, rfl⟩
  induction es with
  | nil => exact ⟨[], rfl⟩
  | cons e es ih =>
    obtain ⟨s, rfl, _⟩ := h e (by simp)
    obtain ⟨c, rfl⟩ := ih fun x hx => h x (by simp [hx])
    exact ⟨s :: c, rfl⟩

theorem is_cls {v : V} (h : Sh.Is shCls v) : ∃ l : List Cl, v = cls l := by
  unfold shCls at h
  rw [Sh.Is] at h
  obtain ⟨es, rfl, h⟩ := h
  suffices ∃ l : List Cl, es = l.map fun c => ints c by
    obtain ⟨l, rfl⟩ := this
    exact ⟨l, rfl⟩
  induction es with
  | nil => exact ⟨[], rfl⟩
  | cons e es ih =>
    obtain ⟨c, rfl⟩ := is_ints (h e (by simp))
    obtain ⟨l, rfl⟩ := ih fun x hx => h x (by simp [hx])
    exact ⟨c :: l, rfl⟩

theorem is_int {v : V} (h : Sh.Is (.int .i64) v) : ∃ n : Int, v = vi n ∧ -9223372036854775808 ≤ n ∧ n < 9223372036854775808 := by
  obtain ⟨n, rfl, hw⟩ := h
  refine ⟨n, rfl, ?_⟩
  simp [Lit.wf, IntKind.min, IntKind.max, IntKind.signed, IntKind.bits] at hw
  omega

theorem is_bools {v : V} (h : Sh.Is (.slice .bool) v) : ∃ l : List Bool, v = bools l := by
  simp only [Sh.Is] at h
  obtain ⟨es, rfl, h⟩ := h
  suffices ∃ l : List Bool, es = l.map V.bool by
    obtain ⟨l, rfl⟩ := this
    exact ⟨l, rfl⟩
  induction es with
  | nil => exact ⟨[], rfl⟩
  | cons e es ih =>
    obtain ⟨s, rfl⟩ := h e (by simp)
    obtain ⟨c, rfl⟩ := ih fun x hx => h x (by simp [hx])
    exact ⟨s :: c, rfl⟩

theorem reaches_lifted (os : Os) (started : os.Started) (H : Type) (enc : TypeId × Value → H) :
    ReturnsInHanded {} Try.checked os 3 .any (Rows.proofReachesSpec.pre6 enc Try.prog Try.f3 Rows.proofReachesRow.domain false) (Rows.proofReachesSpec.post enc Try.prog Try.f3 false true false false) := by
  refine returnsInHanded_of_change (C := Try.checked) own started (by kernel_rfl) Try.func3
    (ChangeSpec.witness6 (enc := enc) (C := Try.checked) false ⟨#[], #[.slice none 0 0, .int .i64 0, .slice none 0 0], []⟩ 8 (by kernel_rfl) (by kernel_rfl) (by kernel_rfl) (by kernel_rfl)) ?_
  intro W base args ds gs before hval hW _ _
  refine law_contract (P := Try.prog) (shs := [shCls, .int .i64, shCl]) laid rfl ?_ (by kernel_rfl) ⟨_, rfl, by kernel_rfl⟩ rfl ?_ ?_ W base args ds gs before hval hW
  · intro i sh t h1 h2
    have : i < 3 := by have := (List.getElem?_eq_some_iff.1 h1).1; simpa using this
    have k0 : Sh.ok Try.prog (shCls) 22 = true := by kernel_rfl
    have k1 : Sh.ok Try.prog (.int .i64) 3 = true := by kernel_rfl
    have k2 : Sh.ok Try.prog (shCl) 23 = true := by kernel_rfl
    match i, this with
    | 0, _ => cases h1; cases h2; exact k0
    | 1, _ => cases h1; cases h2; exact k1
    | 2, _ => cases h1; cases h2; exact k2
  · intro ds hd
    match ds, hd with
    | [d1, d2, d3], _ => exact ⟨rfl, rfl, rfl⟩
  · intro us hus
    simp only [Sh.Iss] at hus
    obtain ⟨u0, _, rfl, h0, u1, _, rfl, h1, u2, _, rfl, h2, rfl⟩ := hus
    obtain ⟨x0, rfl⟩ := is_cls h0
    obtain ⟨x1, rfl, hi1⟩ := is_int h1
    obtain ⟨x2, rfl⟩ := is_ints h2
    exact ev_reaches x0 x1 x2

theorem reaches_holds : Rows.ProofReachesSaid :=
  OpenClaim.holds_of_wide 3 Try.f3 rfl rfl rfl rfl rfl rfl rfl ⟨rfl, rfl, rfl, rfl, rfl⟩ rfl rfl rfl rfl rfl (by kernel_rfl) Try.func3 (by kernel_rfl)
    (of_decide_eq_true (by kernel_rfl)) (by unfold Func.isWrapper; first | (rw [if_pos (by decide +kernel)]; kernel_rfl) | (rw [if_neg (by decide +kernel)]; exact ⟨rfl, rfl⟩))
    (fun os started H enc _ => reaches_lifted os started H enc)

#print axioms reaches_holds

end Go.Proofs.Ytegnjoonhabicaa
