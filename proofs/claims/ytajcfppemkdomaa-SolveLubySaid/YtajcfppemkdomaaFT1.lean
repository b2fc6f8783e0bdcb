/- Functions of the program, part T1. -/
import Derived.Test.YtajcfppemkdomaaF12
set_option linter.unusedVariables false
set_option linter.unusedSimpArgs false
set_option linter.unnecessarySimpa false
namespace Go.Proofs.Ytajcfppemkdomaa
open Go Go.Proofs Go.Abs

set_option maxRecDepth 100000 in
theorem luby_lifted (os : Os) (started : os.Started) (H : Type) (enc : TypeId × Value → H) :
    ReturnsInHanded {} Try.checked os 4 .any (Rows.solveLubySpec.pre6 enc Try.prog Try.f4 Rows.solveLubyRow.domain false) (Rows.solveLubySpec.post enc Try.prog Try.f4 false true false false) := by
  refine returnsInHanded_of_change (C := Try.checked) own started (by kernel_rfl) Try.func4
    (ChangeSpec.witness6 (enc := enc) (C := Try.checked) false ⟨#[], #[.int .i64 0, .int .u8 0], []⟩ 8 (by kernel_rfl) (by kernel_rfl) (by kernel_rfl) (by kernel_rfl)) ?_
  intro W base args ds gs before hval hW _ _
  refine law_contract (P := Try.prog) (shs := [.int .i64, .int .u8]) laid rfl ?_ (by kernel_rfl) ⟨_, rfl, by kernel_rfl⟩ rfl ?_ ?_ W base args ds gs before hval hW
  · intro i sh t h1 h2
    have : i < 2 := by have := (List.getElem?_eq_some_iff.1 h1).1; simpa using this
    have k0 : Sh.ok Try.prog (.int .i64) 3 = true := by kernel_rfl
    have k1 : Sh.ok Try.prog (.int .u8) 5 = true := by kernel_rfl
    match i, this with
    | 0, _ => cases h1; cases h2; exact k0
    | 1, _ => cases h1; cases h2; exact k1
  · intro ds hd
    match ds, hd with
    | [d1, d2], _ => exact ⟨rfl, rfl, rfl⟩
  · intro us hus
    simp only [Sh.Iss] at hus
    obtain ⟨u0, _, rfl, h0, u1, _, rfl, h1, rfl⟩ := hus
    obtain ⟨x0, rfl, hi0⟩ := is_int h0
    obtain ⟨x1, rfl, hi1⟩ := is_u8 h1
    exact ev_SolveLuby x0 x1 (by omega) (by omega)

theorem luby_holds : Rows.SolveLubySaid :=
  OpenClaim.holds_of_wide 4 Try.f4 rfl rfl rfl rfl rfl rfl rfl ⟨rfl, rfl, rfl, rfl, rfl⟩ rfl rfl rfl rfl rfl (by kernel_rfl) Try.func4 (by kernel_rfl)
    (of_decide_eq_true (by kernel_rfl)) (by unfold Func.isWrapper; first | (rw [if_pos (by decide +kernel)]; kernel_rfl) | (rw [if_neg (by decide +kernel)]; exact ⟨rfl, rfl⟩))
    (fun os started H enc _ => luby_lifted os started H enc)

#print axioms luby_holds

end Go.Proofs.Ytajcfppemkdomaa
