/- The statement that this claim is about: whatever the input, the law says true; its card, tied to the text of the program. -/
import Derived.Test.YtokppohljajhjaaGreatDoorBF14
import Derived.Test.YtokppohljajhjaaGreatDoorCards
import Derived.SevenTiedAt
set_option linter.all false
set_option maxRecDepth 100000
namespace Go.Proofs.YtokppohljajhjaaGreatDoor
open Go Go.Proofs Go.Abs Go.RowKit
theorem blifBack_lifted (os : Os) (started : os.Started) (H : Type) (enc : TypeId × Value → H) :
 ReturnsInHanded {} Tryz.checked os 3 .any (fun w args => (Rows.blifBackSpec.pre enc Tryz.prog Tryz.f3 [] false w args ∧ laidMetH Tryz.prog LL w) ∧ sizedMet enc Tryz.prog Tryz.f3 (OpenSpec.ofChange Rows.blifBackSpec) false w args)
  (Rows.blifBackSpec.post enc Tryz.prog Tryz.f3 false true false false) := by
 refine rih_andS (C := Tryz.checked) (X := fun w _ => laidMetH Tryz.prog LL w) (fun _ _ _ hh h => h.of_heap hh) own started (by kernel_rfl) Tryz.func3
  (ChangeSpec.witness_shaped (enc := enc) (C := Tryz.checked) (os := os) (X := fun w _ => laidMetH Tryz.prog LL w) false (Ue os) #[.agg #[.slice none 0 0,.slice none 0 0,.slice none 0 0,.slice none 0 0]] 8 (World.layVars_os _ _ _) (World.shaped_of_ZipB (by kernel_rfl) (by kernel_rfl)) (by kernel_rfl) (by kernel_rfl) (by kernel_rfl) (door_met os _)) ?_
 intro W base args ds gs before hval hW hwt hL hsh;obtain ⟨mo,hgl,hgx⟩ := laid_mo hL hsh;refine law_contractG (P := Tryz.prog) (reachM H Tryz.prog) (shs := [shCi]) laid rfl ?_ (by kernel_rfl) ⟨_,rfl,by kernel_rfl⟩ rfl ?_ (@TE mo) rfl ?_ W base args ds gs before hval hW (reach_of' hwt) hgl hgx
 ·intro i sh t h1 h2;have : i < 1 := by have := (zqe h1).1;simpa using this
  have k0 : Sh.ok Tryz.prog (shCi) 26 = true ∧ Sh.fat Tryz.prog (shCi) 26 = true := ⟨by kernel_rfl,by kernel_rfl⟩
  match i,this with
  | 0,_ => cases h1;cases h2;exact k0
 ·intro ds hd
  match ds,hd with
  | [d1],_ => exact ⟨rfl,rfl,rfl⟩
 ·intro us hus;simp only [Sh.Szs] at hus;obtain ⟨u0,_,rfl,h0,rfl⟩ := hus;obtain ⟨x0,rfl,hx0⟩ := sz_ci (by decide) h0;exact @ev_blifBack mo x0 hx0
theorem blifBack_name : Tryz.pinned.checked.prog.funcNamed "patchbay/patchbaylaw15.BlifBack" = some 3 := by kernel_rfl
theorem blifBack_inPlace : (Rows.blifBackRow.inPlace == Tryz.pinned.checked.prog.inPlace 3) = true := by kernel_rfl
theorem blifBack_unf : (Rows.blifBackRow.unfollowed == Tryz.pinned.checked.prog.unfollowed 3) = true := by kernel_rfl
theorem blifBack_rec : (Rows.blifBackRow.recurses == Tryz.pinned.checked.prog.recurses 3) = true := by kernel_rfl
theorem blifBack_vars : (Rows.blifBackRow.named == Tryz.pinned.checked.prog.varsNamed 3) = true := by kernel_rfl
theorem blifBack_goes : false = Rows.blifBackRow.goesBy Tryz.pinned.checked.prog := by kernel_rfl
theorem blifBack_closed : joinedFacts Tryz.pinned.checked.prog 3 Tryz.f3 Rows.blifBackSpec Rows.blifBackRow = true := by
 unfold joinedFacts
 iterate 5 refine Bool.and_eq_true_iff.2 ⟨?_,by kernel_rfl⟩
 refine Bool.and_eq_true_iff.2 ⟨?_,pf_lifts⟩;refine Bool.and_eq_true_iff.2 ⟨?_,pf_enter⟩;refine Bool.and_eq_true_iff.2 ⟨?_,pf_heard⟩;refine Bool.and_eq_true_iff.2 ⟨?_,by kernel_rfl⟩;refine Bool.and_eq_true_iff.2 ⟨?_,pf_plain⟩
 iterate 9 refine Bool.and_eq_true_iff.2 ⟨?_,by kernel_rfl⟩
 refine Bool.and_eq_true_iff.2 ⟨?_,blifBack_vars⟩;refine Bool.and_eq_true_iff.2 ⟨?_,blifBack_rec⟩;refine Bool.and_eq_true_iff.2 ⟨?_,blifBack_unf⟩;refine Bool.and_eq_true_iff.2 ⟨?_,blifBack_inPlace⟩;refine Bool.and_eq_true_iff.2 ⟨?_,pf_knobs⟩;refine Bool.and_eq_true_iff.2 ⟨?_,by kernel_rfl⟩;refine Bool.and_eq_true_iff.2 ⟨?_,pf_stops⟩;refine Bool.and_eq_true_iff.2 ⟨?_,by kernel_rfl⟩;refine Bool.and_eq_true_iff.2 ⟨?_,by kernel_rfl⟩;refine Bool.and_eq_true_iff.2 ⟨?_,by kernel_rfl⟩;refine Bool.and_eq_true_iff.2 ⟨?_,pf_maps⟩;exact Bool.and_eq_true_iff.2 ⟨by kernel_rfl,pf_laid⟩
theorem blifBack_holds : Rows.BlifBackSaid :=
 OpenClaim.holds_of_wide 3 Tryz.f3 rfl rfl rfl rfl rfl rfl rfl ⟨rfl,rfl,rfl,rfl,rfl⟩ rfl rfl rfl rfl rfl blifBack_name Tryz.func3 blifBack_closed
  (zqs (by kernel_rfl)) (by unfold Func.isWrapper;first | (rw [if_pos (by decide +kernel)];kernel_rfl) | (rw [if_neg (by decide +kernel)];exact ⟨rfl,rfl⟩))
  (fun os started H enc _ => blifBack_lifted os started H enc)
theorem blifBack_card : Rows.BlifBackCardSaid :=
 Claim7.holds_tied_plain_at .later [] [.data, .data, .data, .data, .wider, .mapped, .mapped, .funcs, .pinned] true (true, "4e0d963d9c82b205ceb97253c8819733dc7bbfead33dbde74c9d0ac28f42e1e6") true
  blifBack_holds (fun _ h => by cases h) (by kernel_rfl) (fun _ h => by cases h) blifBack_row_tie rfl ⟨rfl,rfl⟩ pf_main rfl
  (fun f fn hf hfn => by
   obtain rfl : f = 3 := Option.some.inj (blifBack_name.symm.trans hf) |>.symm;obtain rfl : fn = Tryz.f3 := (Option.some.inj (Tryz.func3.symm.trans hfn)).symm;exact ⟨pf_looks,fun j t ht => by
    have hm : t ∈ Tryz.f3.params.toList := by simpa using Array.mem_of_getElem? ht
    have hall : (Tryz.f3.params.toList.all fun u => !Tryz.prog.wantsStandIn u) = true := by kernel_rfl
    exact (show Tryz.prog.wantsStandIn t = false by simpa using zrs.1 hall t hm)⟩)
  blifBack_goes
#print axioms blifBack_card
end Go.Proofs.YtokppohljajhjaaGreatDoor
