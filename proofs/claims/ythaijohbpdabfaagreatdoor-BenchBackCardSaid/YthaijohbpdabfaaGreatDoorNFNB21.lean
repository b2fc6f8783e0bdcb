/- The statement that this claim is about: whatever the input, the law says true; its card, tied to the text of the program. -/
import Derived.Test.YthaijohbpdabfaaGreatDoorNF16
import Derived.Test.YthaijohbpdabfaaGreatDoorNF15
import Derived.Test.YthaijohbpdabfaaGreatDoorCards
import Derived.SevenTiedAt
set_option linter.all false
set_option maxRecDepth 100000
namespace Go.Proofs.YthaijohbpdabfaaGreatDoor
open Go Go.Proofs Go.Abs Go.RowKit
theorem benchBack_lifted (os : Os) (started : os.Started) (H : Type) (enc : TypeId × Value → H) :
 ReturnsInHanded {} Tryz.checked os 5 .any (fun w args => (Rows.benchBackSpec.pre enc Tryz.prog Tryz.f5 [] false w args ∧ laidMetH Tryz.prog LLn w) ∧ sizedMet enc Tryz.prog Tryz.f5 (OpenSpec.ofChange Rows.benchBackSpec) false w args)
  (Rows.benchBackSpec.post enc Tryz.prog Tryz.f5 false true false false) := by
 refine rih_andS (C := Tryz.checked) (X := fun w _ => laidMetH Tryz.prog LLn w) (fun _ _ _ hh h => h.of_heap hh) own started (by kernel_rfl) Tryz.func5
  (ChangeSpec.witness_shaped (enc := enc) (C := Tryz.checked) (os := os) (X := fun w _ => laidMetH Tryz.prog LLn w) false (F8 os) #[.agg #[.slice none 0 0,.slice none 0 0,.slice none 0 0,.slice none 0 0]] 8 (World.layVars_os _ _ _) (World.shaped_of_ZipB (by kernel_rfl) (by kernel_rfl)) (by kernel_rfl) (by kernel_rfl) (by kernel_rfl) (door_metN os _)) ?_
 intro W base args ds gs before hval hW hwt hL hsh;obtain ⟨mo,hgl,hgx⟩ := laid_moN hL hsh;refine law_contractG (P := Tryz.prog) (reachM H Tryz.prog) (shs := [shCi]) laid rfl ?_ (by kernel_rfl) ⟨_,rfl,by kernel_rfl⟩ rfl ?_ (@TE mo) rfl ?_ W base args ds gs before hval hW (reach_of' hwt) hgl hgx
 ·intro i sh t h1 h2;have : i < 1 := by have := (zqe h1).1;simpa using this
  have k0 : Sh.ok Tryz.prog (shCi) 27 = true ∧ Sh.fat Tryz.prog (shCi) 27 = true := ⟨by kernel_rfl,by kernel_rfl⟩
  match i,this with
  | 0,_ => cases h1;cases h2;exact k0
 ·intro ds hd
  match ds,hd with
  | [d1],_ => exact ⟨rfl,rfl,rfl⟩
 ·intro us hus;simp only [Sh.Szs] at hus;obtain ⟨u0,_,rfl,h0,rfl⟩ := hus;obtain ⟨x0,rfl,hx0⟩ := sz_ci (by decide) h0;exact @ev_BenchBack mo x0 hx0
theorem benchBack_name : Tryz.pinned.checked.prog.funcNamed "patchbay/patchbaylaw16.BenchBack" = some 5 := by kernel_rfl
theorem benchBack_inPlace : (Rows.benchBackRow.inPlace == Tryz.pinned.checked.prog.inPlace 5) = true := by kernel_rfl
theorem benchBack_unf : (Rows.benchBackRow.unfollowed == Tryz.pinned.checked.prog.unfollowed 5) = true := by kernel_rfl
theorem benchBack_rec : (Rows.benchBackRow.recurses == Tryz.pinned.checked.prog.recurses 5) = true := by kernel_rfl
theorem benchBack_vars : (Rows.benchBackRow.named == Tryz.pinned.checked.prog.varsNamed 5) = true := by kernel_rfl
theorem benchBack_goes : false = Rows.benchBackRow.goesBy Tryz.pinned.checked.prog := by kernel_rfl
theorem benchBack_closed : joinedFacts Tryz.pinned.checked.prog 5 Tryz.f5 Rows.benchBackSpec Rows.benchBackRow = true := by
 unfold joinedFacts
 iterate 5 refine Bool.and_eq_true_iff.2 ⟨?_,by kernel_rfl⟩
 refine Bool.and_eq_true_iff.2 ⟨?_,pf_lifts⟩;refine Bool.and_eq_true_iff.2 ⟨?_,pf_enter⟩;refine Bool.and_eq_true_iff.2 ⟨?_,pf_heard⟩;refine Bool.and_eq_true_iff.2 ⟨?_,by kernel_rfl⟩;refine Bool.and_eq_true_iff.2 ⟨?_,pf_plain⟩
 iterate 9 refine Bool.and_eq_true_iff.2 ⟨?_,by kernel_rfl⟩
 refine Bool.and_eq_true_iff.2 ⟨?_,benchBack_vars⟩;refine Bool.and_eq_true_iff.2 ⟨?_,benchBack_rec⟩;refine Bool.and_eq_true_iff.2 ⟨?_,benchBack_unf⟩;refine Bool.and_eq_true_iff.2 ⟨?_,benchBack_inPlace⟩;refine Bool.and_eq_true_iff.2 ⟨?_,pf_knobs⟩;refine Bool.and_eq_true_iff.2 ⟨?_,by kernel_rfl⟩;refine Bool.and_eq_true_iff.2 ⟨?_,pf_stops⟩;refine Bool.and_eq_true_iff.2 ⟨?_,by kernel_rfl⟩;refine Bool.and_eq_true_iff.2 ⟨?_,by kernel_rfl⟩;refine Bool.and_eq_true_iff.2 ⟨?_,by kernel_rfl⟩;refine Bool.and_eq_true_iff.2 ⟨?_,pf_maps⟩;exact Bool.and_eq_true_iff.2 ⟨by kernel_rfl,pf_laid⟩
theorem benchBack_holds : Rows.BenchBackSaid :=
 OpenClaim.holds_of_wide 5 Tryz.f5 rfl rfl rfl rfl rfl rfl rfl ⟨rfl,rfl,rfl,rfl,rfl⟩ rfl rfl rfl rfl rfl benchBack_name Tryz.func5 benchBack_closed
  (zqs (by kernel_rfl)) (by unfold Func.isWrapper;first | (rw [if_pos (by decide +kernel)];kernel_rfl) | (rw [if_neg (by decide +kernel)];exact ⟨rfl,rfl⟩))
  (fun os started H enc _ => benchBack_lifted os started H enc)
theorem benchBack_card : Rows.BenchBackCardSaid :=
 Claim7.holds_tied_plain_at .later [] [.data, .data, .data, .data, .wider, .mapped, .mapped, .widerDeep, .widerDeep, .mapped, .mapped, .pinned] true (true, "277376348e67c6e4505156191ba0faf005bbeea4c685b33672f996eaf3e381ba") true
  benchBack_holds (fun _ h => by cases h) (by kernel_rfl) (fun _ h => by cases h) benchBack_row_tie rfl ⟨rfl,rfl⟩ pf_main rfl
  (fun f fn hf hfn => by
   obtain rfl : f = 5 := Option.some.inj (benchBack_name.symm.trans hf) |>.symm;obtain rfl : fn = Tryz.f5 := (Option.some.inj (Tryz.func5.symm.trans hfn)).symm;exact ⟨pf_looks,fun j t ht => by
    have hm : t ∈ Tryz.f5.params.toList := by simpa using Array.mem_of_getElem? ht
    have hall : (Tryz.f5.params.toList.all fun u => !Tryz.prog.wantsStandIn u) = true := by kernel_rfl
    exact (show Tryz.prog.wantsStandIn t = false by simpa using zrs.1 hall t hm)⟩)
  benchBack_goes
#print axioms benchBack_card
end Go.Proofs.YthaijohbpdabfaaGreatDoor
