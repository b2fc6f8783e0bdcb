/- Functions of the program, part T4. -/
import Derived.Test.YtajcfppemkdomaaF15
import Derived.Test.YtajcfppemkdomaaF12
set_option linter.unusedVariables false
set_option linter.unusedSimpArgs false
set_option linter.unnecessarySimpa false
namespace Go.Proofs.Ytajcfppemkdomaa
open Go Go.Proofs Go.Abs

set_option maxRecDepth 100000 in
theorem proves_lifted (os : Os) (started : os.Started) (H : Type) (enc : TypeId × Value → H) :
    ReturnsInHanded {} Try.checked os 6 .any (Rows.solveProvesSpec.pre6 enc Try.prog Try.f6 Rows.solveProvesRow.domain false) (Rows.solveProvesSpec.post enc Try.prog Try.f6 false true false false) := by
  refine returnsInHanded_of_change (C := Try.checked) own started (by kernel_rfl) Try.func6
    (ChangeSpec.witness6 (enc := enc) (C := Try.checked) false ⟨#[], #[.slice none 0 0, .int .i64 0, .int .i64 0], []⟩ 8 (by kernel_rfl) (by kernel_rfl) (by kernel_rfl) (by kernel_rfl)) ?_
  intro W base args ds gs before hval hW _ _
  refine law_contract (P := Try.prog) (shs := [shCls, .int .i64, .int .i64]) laid rfl ?_ (by kernel_rfl) ⟨_, rfl, by kernel_rfl⟩ rfl ?_ ?_ W base args ds gs before hval hW
  · intro i sh t h1 h2
    have : i < 3 := by have := (List.getElem?_eq_some_iff.1 h1).1; simpa using this
    have k0 : Sh.ok Try.prog (shCls) 22 = true := by kernel_rfl
    have k1 : Sh.ok Try.prog (.int .i64) 3 = true := by kernel_rfl
    have k2 : Sh.ok Try.prog (.int .i64) 3 = true := by kernel_rfl
    match i, this with
    | 0, _ => cases h1; cases h2; exact k0
    | 1, _ => cases h1; cases h2; exact k1
    | 2, _ => cases h1; cases h2; exact k2
  · intro ds hd
    match ds, hd with
    | [d1, d2, d3], _ => exact ⟨rfl, rfl, rfl⟩
  · intro us hus
    simp only [Sh.Iss] at hus
    obtain ⟨u0, _, rfl, h0, u1, _, rfl, h1, u2, _, rfl, h2, rfl⟩ := hus
    obtain ⟨x0, rfl⟩ := is_cls h0
    obtain ⟨x1, rfl, hi1⟩ := is_int h1
    obtain ⟨x2, rfl, hi2⟩ := is_int h2
    exact ev_SolveProves x0 x1 x2

theorem proves_holds : Rows.SolveProvesSaid :=
  OpenClaim.holds_of_wide 6 Try.f6 rfl rfl rfl rfl rfl rfl rfl ⟨rfl, rfl, rfl, rfl, rfl⟩ rfl rfl rfl rfl rfl (by kernel_rfl) Try.func6 (by kernel_rfl)
    (of_decide_eq_true (by kernel_rfl)) (by unfold Func.isWrapper; first | (rw [if_pos (by decide +kernel)]; kernel_rfl) | (rw [if_neg (by decide +kernel)]; exact ⟨rfl, rfl⟩))
    (fun os started H enc _ => proves_lifted os started H enc)

#print axioms proves_holds

end Go.Proofs.Ytajcfppemkdomaa
