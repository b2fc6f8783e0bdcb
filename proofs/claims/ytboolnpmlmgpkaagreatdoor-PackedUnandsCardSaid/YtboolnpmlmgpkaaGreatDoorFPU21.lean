/- The statement that this claim is about: whatever the input, the law says true; its card, tied to the text of the program. -/
import Derived.Test.YtboolnpmlmgpkaaGreatDoorF16
import Derived.Test.YtboolnpmlmgpkaaGreatDoorCards
import Derived.SevenTiedAt
set_option linter.unusedVariables false
set_option maxRecDepth 20000
set_option linter.unusedSimpArgs false
set_option linter.unnecessarySimpa false
set_option maxRecDepth 100000
namespace Go.Proofs.YtboolnpmlmgpkaaGreatDoor
open Go Go.Proofs Go.Abs Go.RowKit
set_option maxRecDepth 100000 in
theorem packedUnands_lifted (os : Os) (started : os.Started) (H : Type) (enc : TypeId × Value → H) :
 ReturnsInHanded {} Tryz.checked os 7 .any (fun w args => (Rows.packedUnandsSpec.pre enc Tryz.prog Tryz.f7 [] false w args ∧ laidMetH Tryz.prog LL w) ∧ sizedMet enc Tryz.prog Tryz.f7 (OpenSpec.ofChange Rows.packedUnandsSpec) false w args)
  (Rows.packedUnandsSpec.post enc Tryz.prog Tryz.f7 false true false false) := by
 refine returnsInHanded_of_change_and (C := Tryz.checked) (X := fun w _ => laidMetH Tryz.prog LL w) (fun _ _ _ hh h => h.of_heap hh) own started (by kernel_rfl) Tryz.func7
  (ChangeSpec.witness_shaped (enc := enc) (C := Tryz.checked) (os := os) (X := fun w _ => laidMetH Tryz.prog LL w) false (World.doorLaid Tryz.prog 400 os) #[.agg #[.int .i64 0, .slice none 0 0, .slice none 0 0, .slice none 0 0, .slice none 0 0], .string ⟨#[]⟩, .string ⟨#[]⟩, .int .u8 0] 8 rfl (World.shaped_of_RefB (by kernel_rfl) (by kernel_rfl)) (by kernel_rfl) (by kernel_rfl) (by kernel_rfl) (door_met os _)) ?_
 intro W base args ds gs before hval hW _ hwt hL _
 refine law_contractG (P := Tryz.prog) (reachM H Tryz.prog) (shs := [shGr, .str, .str, .int .u8]) laid rfl ?_ (by kernel_rfl) ⟨_, rfl, by kernel_rfl⟩ rfl ?_ TE rfl ?_ W base args ds gs before hval hW (reach_of' hwt) (gl_of_laid hL) (of_laid hL)
 ·intro i sh t h1 h2
  have : i < 4 := by have := (List.getElem?_eq_some_iff.1 h1).1; simpa using this
  have k0 : Sh.ok Tryz.prog (shGr) 25 = true ∧ Sh.fat Tryz.prog (shGr) 25 = true := ⟨by kernel_rfl, by kernel_rfl⟩
  have k1 : Sh.ok Tryz.prog (.str) 9 = true ∧ Sh.fat Tryz.prog (.str) 9 = true := ⟨by kernel_rfl, by kernel_rfl⟩
  have k2 : Sh.ok Tryz.prog (.str) 9 = true ∧ Sh.fat Tryz.prog (.str) 9 = true := ⟨by kernel_rfl, by kernel_rfl⟩
  have k3 : Sh.ok Tryz.prog (.int .u8) 5 = true ∧ Sh.fat Tryz.prog (.int .u8) 5 = true := ⟨by kernel_rfl, by kernel_rfl⟩
  match i, this with
  | 0, _ => cases h1; cases h2; exact k0
  | 1, _ => cases h1; cases h2; exact k1
  | 2, _ => cases h1; cases h2; exact k2
  | 3, _ => cases h1; cases h2; exact k3
 ·intro ds hd
  match ds, hd with
  | [d1, d2, d3, d4], _ => exact ⟨rfl, rfl, rfl⟩
 ·intro us hus
  simp only [Sh.Szs] at hus
  obtain ⟨u0, _, rfl, h0, u1, _, rfl, h1, u2, _, rfl, h2, u3, _, rfl, h3, rfl⟩ := hus
  obtain ⟨x0, rfl, hx0⟩ := sz_gr (by decide) h0
  obtain ⟨x1, rfl, hx1⟩ := sz_str h1
  obtain ⟨x2, rfl, hx2⟩ := sz_str h2
  obtain ⟨x3, rfl, hx3⟩ := sz_u8 h3
  exact ev_packedUnands x0 x1 x2 x3 hx0
theorem packedUnands_name : Tryz.pinned.checked.prog.funcNamed "patchbay/patchbaylaw14.PackedUnands" = some 7 := by kernel_rfl
theorem packedUnands_inPlace : (Rows.packedUnandsRow.inPlace == Tryz.pinned.checked.prog.inPlace 7) = true := by kernel_rfl
theorem packedUnands_unf : (Rows.packedUnandsRow.unfollowed == Tryz.pinned.checked.prog.unfollowed 7) = true := by kernel_rfl
theorem packedUnands_rec : (Rows.packedUnandsRow.recurses == Tryz.pinned.checked.prog.recurses 7) = true := by kernel_rfl
theorem packedUnands_vars : (Rows.packedUnandsRow.named == Tryz.pinned.checked.prog.varsNamed 7) = true := by kernel_rfl
theorem packedUnands_goes : false = Rows.packedUnandsRow.goesBy Tryz.pinned.checked.prog := by kernel_rfl
theorem packedUnands_closed : joinedFacts Tryz.pinned.checked.prog 7 Tryz.f7 Rows.packedUnandsSpec Rows.packedUnandsRow = true := by
 unfold joinedFacts
 iterate 5 refine Bool.and_eq_true_iff.2 ⟨?_, by kernel_rfl⟩
 refine Bool.and_eq_true_iff.2 ⟨?_, pf_lifts⟩
 refine Bool.and_eq_true_iff.2 ⟨?_, pf_enter⟩
 refine Bool.and_eq_true_iff.2 ⟨?_, pf_heard⟩
 refine Bool.and_eq_true_iff.2 ⟨?_, by kernel_rfl⟩
 refine Bool.and_eq_true_iff.2 ⟨?_, pf_plain⟩
 iterate 9 refine Bool.and_eq_true_iff.2 ⟨?_, by kernel_rfl⟩
 refine Bool.and_eq_true_iff.2 ⟨?_, packedUnands_vars⟩
 refine Bool.and_eq_true_iff.2 ⟨?_, packedUnands_rec⟩
 refine Bool.and_eq_true_iff.2 ⟨?_, packedUnands_unf⟩
 refine Bool.and_eq_true_iff.2 ⟨?_, packedUnands_inPlace⟩
 refine Bool.and_eq_true_iff.2 ⟨?_, pf_knobs⟩
 refine Bool.and_eq_true_iff.2 ⟨?_, by kernel_rfl⟩
 refine Bool.and_eq_true_iff.2 ⟨?_, pf_stops⟩
 refine Bool.and_eq_true_iff.2 ⟨?_, by kernel_rfl⟩
 refine Bool.and_eq_true_iff.2 ⟨?_, by kernel_rfl⟩
 refine Bool.and_eq_true_iff.2 ⟨?_, by kernel_rfl⟩
 refine Bool.and_eq_true_iff.2 ⟨?_, pf_maps⟩
 exact Bool.and_eq_true_iff.2 ⟨by kernel_rfl, pf_laid⟩
theorem packedUnands_holds : Rows.PackedUnandsSaid :=
 OpenClaim.holds_of_wide 7 Tryz.f7 rfl rfl rfl rfl rfl rfl rfl ⟨rfl, rfl, rfl, rfl, rfl⟩ rfl rfl rfl rfl rfl packedUnands_name Tryz.func7 packedUnands_closed
  (of_decide_eq_true (by kernel_rfl)) (by unfold Func.isWrapper; first | (rw [if_pos (by decide +kernel)]; kernel_rfl) | (rw [if_neg (by decide +kernel)]; exact ⟨rfl, rfl⟩))
  (fun os started H enc _ => packedUnands_lifted os started H enc)
theorem packedUnands_card : Rows.PackedUnandsCardSaid :=
 Claim7.holds_tied_plain_at .later [] [.data, .data, .data, .handle, .sentinel, .sentinel, .wider] true (true, "29196b330cf1e532a7874e12d148bce46726bfc279db6007120eef52939e3d65") true
  packedUnands_holds (fun _ h => by cases h) (by kernel_rfl) (fun _ h => by cases h) packedUnands_row_tie rfl ⟨rfl, rfl⟩ pf_main rfl
  (fun f fn hf hfn => by
   obtain rfl : f = 7 := Option.some.inj (packedUnands_name.symm.trans hf) |>.symm
   obtain rfl : fn = Tryz.f7 := (Option.some.inj (Tryz.func7.symm.trans hfn)).symm
   exact ⟨pf_looks, fun j t ht => by
    have hm : t ∈ Tryz.f7.params.toList := by simpa using Array.mem_of_getElem? ht
    have hall : (Tryz.f7.params.toList.all fun u => !Tryz.prog.wantsStandIn u) = true := by kernel_rfl
    exact (show Tryz.prog.wantsStandIn t = false by simpa using List.all_eq_true.1 hall t hm)⟩)
  packedUnands_goes
#print axioms packedUnands_card
end Go.Proofs.YtboolnpmlmgpkaaGreatDoor
