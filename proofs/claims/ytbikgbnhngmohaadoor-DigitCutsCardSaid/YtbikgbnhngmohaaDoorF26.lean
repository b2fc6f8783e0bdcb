/- Functions of the program, part 26. -/
import Derived.Test.YtbikgbnhngmohaaDoorF20
import Derived.Test.YtbikgbnhngmohaaDoorCards
import Derived.SevenTiedAt
set_option linter.unusedVariables false
set_option linter.unusedSimpArgs false
set_option linter.unnecessarySimpa false
namespace Go.Proofs.YtbikgbnhngmohaaDoor
open Go Go.Proofs Go.Abs Go.RowKit

set_option maxRecDepth 100000 in
theorem digitCuts_lifted (os : Os) (started : os.Started) (H : Type) (enc : TypeId × Value → H) :
    ReturnsInHanded {} Tryd.checked os 8 .any (fun w args => (Rows.digitCutsSpec.pre enc Tryd.prog Tryd.f8 [] false w args ∧ laidMetH Tryd.prog LL w) ∧ sizedMet enc Tryd.prog Tryd.f8 (OpenSpec.ofChange Rows.digitCutsSpec) false w args)
      (Rows.digitCutsSpec.post enc Tryd.prog Tryd.f8 false true false false) := by
  refine returnsInHanded_of_change_and (C := Tryd.checked) (X := fun w _ => laidMetH Tryd.prog LL w) (fun _ _ _ hh h => h.of_heap hh) own started (by kernel_rfl) Tryd.func8
    (ChangeSpec.witness_shaped (enc := enc) (C := Tryd.checked) (os := os) (X := fun w _ => laidMetH Tryd.prog LL w) false (World.doorLaid Tryd.prog 400 os) #[.int .i64 0, .int .u8 0, .int .u8 0] 8 rfl (World.shaped_of_RefB (by kernel_rfl) (by kernel_rfl)) (by kernel_rfl) (by kernel_rfl) (by kernel_rfl) (door_met os _)) ?_
  intro W base args ds gs before hval hW _ _ hL _
  refine law_contractX (P := Tryd.prog) (shs := [.int .i64, .int .u8, .int .u8]) laid rfl ?_ (by kernel_rfl) ⟨_, rfl, by kernel_rfl⟩ rfl ?_ TE rfl rfl ?_ W base args ds gs before hval hW (of_laid hL)
  · intro i sh t h1 h2
    have : i < 3 := by have := (List.getElem?_eq_some_iff.1 h1).1; simpa using this
    have k0 : Sh.ok Tryd.prog (.int .i64) 3 = true := by kernel_rfl
    have k1 : Sh.ok Tryd.prog (.int .u8) 5 = true := by kernel_rfl
    have k2 : Sh.ok Tryd.prog (.int .u8) 5 = true := by kernel_rfl
    match i, this with
    | 0, _ => cases h1; cases h2; exact k0
    | 1, _ => cases h1; cases h2; exact k1
    | 2, _ => cases h1; cases h2; exact k2
  · intro ds hd
    match ds, hd with
    | [d1, d2, d3], _ => exact ⟨rfl, rfl, rfl⟩
  · intro us hus
    simp only [Sh.Iss] at hus
    obtain ⟨u0, _, rfl, h0, u1, _, rfl, h1, u2, _, rfl, h2, rfl⟩ := hus
    obtain ⟨x0, rfl, hi0⟩ := is_int h0
    obtain ⟨x1, rfl⟩ := is_u8 h1
    obtain ⟨x2, rfl⟩ := is_u8 h2
    exact ev_cuts x0 x1 x2

theorem digitCuts_holds : Rows.DigitCutsSaid :=
  OpenClaim.holds_of_wide 8 Tryd.f8 rfl rfl rfl rfl rfl rfl rfl ⟨rfl, rfl, rfl, rfl, rfl⟩ rfl rfl rfl rfl rfl (by kernel_rfl) Tryd.func8 (by kernel_rfl)
    (of_decide_eq_true (by kernel_rfl)) (by unfold Func.isWrapper; first | (rw [if_pos (by decide +kernel)]; kernel_rfl) | (rw [if_neg (by decide +kernel)]; exact ⟨rfl, rfl⟩))
    (fun os started H enc _ => digitCuts_lifted os started H enc)

theorem digitCuts_card : Rows.DigitCutsCardSaid :=
  Claim7.holds_tied_plain_at .later [] [.data, .data, .data, .handle, .sentinel, .sentinel] true (true, "3c57a49b8bc57ccf2e2abb62bd602539baa1aa340b930eed911dbcebd7fc973b") true
    digitCuts_holds (fun _ h => by cases h) (by kernel_rfl) (fun _ h => by cases h) digitCuts_row_tie rfl ⟨rfl, rfl⟩ (by kernel_rfl) rfl
    (fun f fn hf hfn => by
      obtain rfl : f = 8 := Option.some.inj ((show Tryd.prog.funcNamed "patchbay/patchbaylaw02.DigitCuts" = some 8 by kernel_rfl).symm.trans hf) |>.symm
      obtain rfl : fn = Tryd.f8 := (Option.some.inj (Tryd.func8.symm.trans hfn)).symm
      exact ⟨by kernel_rfl, fun j t ht => by
        have hm : t ∈ Tryd.f8.params.toList := by simpa using Array.mem_of_getElem? ht
        have hall : (Tryd.f8.params.toList.all fun u => !Tryd.prog.wantsStandIn u) = true := by kernel_rfl
        exact (show Tryd.prog.wantsStandIn t = false by simpa using List.all_eq_true.1 hall t hm)⟩)
    (by kernel_rfl)

#print axioms digitCuts_card

end Go.Proofs.YtbikgbnhngmohaaDoor
