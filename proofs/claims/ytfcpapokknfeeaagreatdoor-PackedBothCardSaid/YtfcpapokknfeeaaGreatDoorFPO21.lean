/- The statement that this claim is about: whatever the input, the law says true; its card, tied to the text of the program. -/
import Derived.Test.YtfcpapokknfeeaaGreatDoorF19
import Derived.Test.YtfcpapokknfeeaaGreatDoorF05
import Derived.Test.YtfcpapokknfeeaaGreatDoorCards
import Derived.SevenTiedAt
set_option linter.unusedVariables false
set_option linter.unusedSimpArgs false
set_option linter.unnecessarySimpa false
set_option maxRecDepth 100000
namespace Go.Proofs.YtfcpapokknfeeaaGreatDoor
open Go Go.Proofs Go.Abs Go.RowKit
theorem packedBoth_lifted (os : Os) (started : os.Started) (H : Type) (enc : TypeId × Value → H) :
 ReturnsInHanded {} Tryz.checked os 5 .any (fun w args => (Rows.packedBothSpec.pre enc Tryz.prog Tryz.f5 [] false w args ∧ laidMetH Tryz.prog LL w) ∧ sizedMet enc Tryz.prog Tryz.f5 (OpenSpec.ofChange Rows.packedBothSpec) false w args)
  (Rows.packedBothSpec.post enc Tryz.prog Tryz.f5 false true false false) := by
 refine returnsInHanded_of_change_and (C := Tryz.checked) (X := fun w _ => laidMetH Tryz.prog LL w) (fun _ _ _ hh h => h.of_heap hh) own started (by kernel_rfl) Tryz.func5
  (ChangeSpec.witness_shaped (enc := enc) (C := Tryz.checked) (os := os) (X := fun w _ => laidMetH Tryz.prog LL w) false (World.doorLaid Tryz.prog 400 os) #[.agg #[.int .i64 0,.slice none 0 0,.slice none 0 0,.slice none 0 0,.slice none 0 0,.slice none 0 0,.slice none 0 0,.slice none 0 0]] 8 rfl (World.shaped_of_RefB (by kernel_rfl) (by kernel_rfl)) (by kernel_rfl) (by kernel_rfl) (by kernel_rfl) (door_met os _)) ?_
 intro W base args ds gs before hval hW _ hwt hL _;refine law_contractG (P := Tryz.prog) (reachM H Tryz.prog) (shs := [shMo]) laid rfl ?_ (by kernel_rfl) ⟨_,rfl,by kernel_rfl⟩ rfl ?_ TE rfl ?_ W base args ds gs before hval hW (reach_of' hwt) (gl_of_laid hL) (of_laid hL)
 ·intro i sh t h1 h2;have : i < 1 := by have := (List.getElem?_eq_some_iff.1 h1).1;simpa using this
  have k0 : Sh.ok Tryz.prog (shMo) 28 = true ∧ Sh.fat Tryz.prog (shMo) 28 = true := ⟨by kernel_rfl,by kernel_rfl⟩
  match i,this with
  | 0,_ => cases h1;cases h2;exact k0
 ·intro ds hd
  match ds,hd with
  | [d1],_ => exact ⟨rfl,rfl,rfl⟩
 ·intro us hus;simp only [Sh.Szs] at hus;obtain ⟨u0,_,rfl,h0,rfl⟩ := hus;obtain ⟨x0,rfl,hx0⟩ := sz_mo (by decide) h0;exact ev_packedBoth x0 hx0
theorem packedBoth_name : Tryz.pinned.checked.prog.funcNamed "patchbay/patchbaylaw14.PackedBoth" = some 5 := by kernel_rfl
theorem packedBoth_inPlace : (Rows.packedBothRow.inPlace == Tryz.pinned.checked.prog.inPlace 5) = true := by kernel_rfl
theorem packedBoth_unf : (Rows.packedBothRow.unfollowed == Tryz.pinned.checked.prog.unfollowed 5) = true := by kernel_rfl
theorem packedBoth_rec : (Rows.packedBothRow.recurses == Tryz.pinned.checked.prog.recurses 5) = true := by kernel_rfl
theorem packedBoth_vars : (Rows.packedBothRow.named == Tryz.pinned.checked.prog.varsNamed 5) = true := by kernel_rfl
theorem packedBoth_goes : false = Rows.packedBothRow.goesBy Tryz.pinned.checked.prog := by kernel_rfl
theorem packedBoth_closed : joinedFacts Tryz.pinned.checked.prog 5 Tryz.f5 Rows.packedBothSpec Rows.packedBothRow = true := by
 unfold joinedFacts
 iterate 5 refine Bool.and_eq_true_iff.2 ⟨?_,by kernel_rfl⟩
 refine Bool.and_eq_true_iff.2 ⟨?_,pf_lifts⟩;refine Bool.and_eq_true_iff.2 ⟨?_,pf_enter⟩;refine Bool.and_eq_true_iff.2 ⟨?_,pf_heard⟩;refine Bool.and_eq_true_iff.2 ⟨?_,by kernel_rfl⟩;refine Bool.and_eq_true_iff.2 ⟨?_,pf_plain⟩
 iterate 9 refine Bool.and_eq_true_iff.2 ⟨?_,by kernel_rfl⟩
 refine Bool.and_eq_true_iff.2 ⟨?_,packedBoth_vars⟩;refine Bool.and_eq_true_iff.2 ⟨?_,packedBoth_rec⟩;refine Bool.and_eq_true_iff.2 ⟨?_,packedBoth_unf⟩;refine Bool.and_eq_true_iff.2 ⟨?_,packedBoth_inPlace⟩;refine Bool.and_eq_true_iff.2 ⟨?_,pf_knobs⟩;refine Bool.and_eq_true_iff.2 ⟨?_,by kernel_rfl⟩;refine Bool.and_eq_true_iff.2 ⟨?_,pf_stops⟩;refine Bool.and_eq_true_iff.2 ⟨?_,by kernel_rfl⟩;refine Bool.and_eq_true_iff.2 ⟨?_,by kernel_rfl⟩;refine Bool.and_eq_true_iff.2 ⟨?_,by kernel_rfl⟩;refine Bool.and_eq_true_iff.2 ⟨?_,pf_maps⟩;exact Bool.and_eq_true_iff.2 ⟨by kernel_rfl,pf_laid⟩
theorem packedBoth_holds : Rows.PackedBothSaid :=
 OpenClaim.holds_of_wide 5 Tryz.f5 rfl rfl rfl rfl rfl rfl rfl ⟨rfl,rfl,rfl,rfl,rfl⟩ rfl rfl rfl rfl rfl packedBoth_name Tryz.func5 packedBoth_closed
  (of_decide_eq_true (by kernel_rfl)) (by unfold Func.isWrapper;first | (rw [if_pos (by decide +kernel)];kernel_rfl) | (rw [if_neg (by decide +kernel)];exact ⟨rfl,rfl⟩))
  (fun os started H enc _ => packedBoth_lifted os started H enc)
theorem packedBoth_card : Rows.PackedBothCardSaid :=
 Claim7.holds_tied_plain_at .later [] [.data, .data, .data, .handle, .sentinel, .sentinel, .wider] true (true, "e724ccb70166124cfc1b7557fa299b5ede9b7b5039860310cca62b97ae2c3679") true
  packedBoth_holds (fun _ h => by cases h) (by kernel_rfl) (fun _ h => by cases h) packedBoth_row_tie rfl ⟨rfl,rfl⟩ pf_main rfl
  (fun f fn hf hfn => by
   obtain rfl : f = 5 := Option.some.inj (packedBoth_name.symm.trans hf) |>.symm;obtain rfl : fn = Tryz.f5 := (Option.some.inj (Tryz.func5.symm.trans hfn)).symm;exact ⟨pf_looks,fun j t ht => by
    have hm : t ∈ Tryz.f5.params.toList := by simpa using Array.mem_of_getElem? ht
    have hall : (Tryz.f5.params.toList.all fun u => !Tryz.prog.wantsStandIn u) = true := by kernel_rfl
    exact (show Tryz.prog.wantsStandIn t = false by simpa using List.all_eq_true.1 hall t hm)⟩)
  packedBoth_goes
#print axioms packedBoth_card
end Go.Proofs.YtfcpapokknfeeaaGreatDoor
