/- The statement that this claim is about: whatever the input, the law says true; its card, tied to the text of the program. -/
import Derived.Test.YtokppohljajhjaaGreatDoorRF14
import Derived.Test.YtokppohljajhjaaGreatDoorCards
import Derived.SevenTiedAt
set_option linter.all false
set_option maxRecDepth 100000
namespace Go.Proofs.YtokppohljajhjaaGreatDoor
open Go Go.Proofs Go.Abs Go.RowKit
theorem blifRuns_lifted (os : Os) (started : os.Started) (H : Type) (enc : TypeId × Value → H) :
 ReturnsInHanded {} Tryz.checked os 5 .any (fun w args => (Rows.blifRunsSpec.pre enc Tryz.prog Tryz.f5 [] false w args ∧ laidMetH Tryz.prog LL w) ∧ sizedMet enc Tryz.prog Tryz.f5 (OpenSpec.ofChange Rows.blifRunsSpec) false w args)
  (Rows.blifRunsSpec.post enc Tryz.prog Tryz.f5 false true false false) := by
 refine rih_andS (C := Tryz.checked) (X := fun w _ => laidMetH Tryz.prog LL w) (fun _ _ _ hh h => h.of_heap hh) own started (by kernel_rfl) Tryz.func5
  (ChangeSpec.witness_shaped (enc := enc) (C := Tryz.checked) (os := os) (X := fun w _ => laidMetH Tryz.prog LL w) false (Vw os) #[.agg #[.slice none 0 0,.slice none 0 0,.slice none 0 0,.slice none 0 0],.slice none 0 0,.slice none 0 0] 8 (World.layVars_os _ _ _) (World.shaped_of_ZipB (by kernel_rfl) (by kernel_rfl)) (by kernel_rfl) (by kernel_rfl) (by kernel_rfl) (door_met os _)) ?_
 intro W base args ds gs before hval hW hwt hL hsh;obtain ⟨mo,hgl,hgx⟩ := laid_mo hL hsh;refine law_contractG (P := Tryz.prog) (reachM H Tryz.prog) (shs := [shCi,shBs,shBs]) laid rfl ?_ (by kernel_rfl) ⟨_,rfl,by kernel_rfl⟩ rfl ?_ (@TE mo) rfl ?_ W base args ds gs before hval hW (reach_of' hwt) hgl hgx
 ·intro i sh t h1 h2;have : i < 3 := by have := (zqe h1).1;simpa using this
  have k0 : Sh.ok Tryz.prog (shCi) 26 = true ∧ Sh.fat Tryz.prog (shCi) 26 = true := ⟨by kernel_rfl,by kernel_rfl⟩;have k1 : Sh.ok Tryz.prog (shBs) 43 = true ∧ Sh.fat Tryz.prog (shBs) 43 = true := ⟨by kernel_rfl,by kernel_rfl⟩;have k2 : Sh.ok Tryz.prog (shBs) 43 = true ∧ Sh.fat Tryz.prog (shBs) 43 = true := ⟨by kernel_rfl,by kernel_rfl⟩
  match i,this with
  | 0,_ => cases h1;cases h2;exact k0
  | 1,_ => cases h1;cases h2;exact k1
  | 2,_ => cases h1;cases h2;exact k2
 ·intro ds hd
  match ds,hd with
  | [d1,d2,d3],_ => exact ⟨rfl,rfl,rfl⟩
 ·intro us hus;simp only [Sh.Szs] at hus;obtain ⟨u0,_,rfl,h0,u1,_,rfl,h1,u2,_,rfl,h2,rfl⟩ := hus;obtain ⟨x0,rfl,hx0⟩ := sz_ci (by decide) h0;obtain ⟨x1,rfl⟩ := sz_bs h1;obtain ⟨x2,rfl⟩ := sz_bs h2;exact @ev_blifRuns mo x0 hx0 x1 x2
theorem blifRuns_name : Tryz.pinned.checked.prog.funcNamed "patchbay/patchbaylaw15.BlifRuns" = some 5 := by kernel_rfl
theorem blifRuns_inPlace : (Rows.blifRunsRow.inPlace == Tryz.pinned.checked.prog.inPlace 5) = true := by kernel_rfl
theorem blifRuns_unf : (Rows.blifRunsRow.unfollowed == Tryz.pinned.checked.prog.unfollowed 5) = true := by kernel_rfl
theorem blifRuns_rec : (Rows.blifRunsRow.recurses == Tryz.pinned.checked.prog.recurses 5) = true := by kernel_rfl
theorem blifRuns_vars : (Rows.blifRunsRow.named == Tryz.pinned.checked.prog.varsNamed 5) = true := by kernel_rfl
theorem blifRuns_goes : false = Rows.blifRunsRow.goesBy Tryz.pinned.checked.prog := by kernel_rfl
theorem blifRuns_closed : joinedFacts Tryz.pinned.checked.prog 5 Tryz.f5 Rows.blifRunsSpec Rows.blifRunsRow = true := by
 unfold joinedFacts
 iterate 5 refine Bool.and_eq_true_iff.2 ⟨?_,by kernel_rfl⟩
 refine Bool.and_eq_true_iff.2 ⟨?_,pf_lifts⟩;refine Bool.and_eq_true_iff.2 ⟨?_,pf_enter⟩;refine Bool.and_eq_true_iff.2 ⟨?_,pf_heard⟩;refine Bool.and_eq_true_iff.2 ⟨?_,by kernel_rfl⟩;refine Bool.and_eq_true_iff.2 ⟨?_,pf_plain⟩
 iterate 9 refine Bool.and_eq_true_iff.2 ⟨?_,by kernel_rfl⟩
 refine Bool.and_eq_true_iff.2 ⟨?_,blifRuns_vars⟩;refine Bool.and_eq_true_iff.2 ⟨?_,blifRuns_rec⟩;refine Bool.and_eq_true_iff.2 ⟨?_,blifRuns_unf⟩;refine Bool.and_eq_true_iff.2 ⟨?_,blifRuns_inPlace⟩;refine Bool.and_eq_true_iff.2 ⟨?_,pf_knobs⟩;refine Bool.and_eq_true_iff.2 ⟨?_,by kernel_rfl⟩;refine Bool.and_eq_true_iff.2 ⟨?_,pf_stops⟩;refine Bool.and_eq_true_iff.2 ⟨?_,by kernel_rfl⟩;refine Bool.and_eq_true_iff.2 ⟨?_,by kernel_rfl⟩;refine Bool.and_eq_true_iff.2 ⟨?_,by kernel_rfl⟩;refine Bool.and_eq_true_iff.2 ⟨?_,pf_maps⟩;exact Bool.and_eq_true_iff.2 ⟨by kernel_rfl,pf_laid⟩
theorem blifRuns_holds : Rows.BlifRunsSaid :=
 OpenClaim.holds_of_wide 5 Tryz.f5 rfl rfl rfl rfl rfl rfl rfl ⟨rfl,rfl,rfl,rfl,rfl⟩ rfl rfl rfl rfl rfl blifRuns_name Tryz.func5 blifRuns_closed
  (zqs (by kernel_rfl)) (by unfold Func.isWrapper;first | (rw [if_pos (by decide +kernel)];kernel_rfl) | (rw [if_neg (by decide +kernel)];exact ⟨rfl,rfl⟩))
  (fun os started H enc _ => blifRuns_lifted os started H enc)
theorem blifRuns_card : Rows.BlifRunsCardSaid :=
 Claim7.holds_tied_plain_at .later [] [.data, .data, .data, .data, .wider, .mapped, .mapped, .funcs, .pinned] true (true, "4e0d963d9c82b205ceb97253c8819733dc7bbfead33dbde74c9d0ac28f42e1e6") true
  blifRuns_holds (fun _ h => by cases h) (by kernel_rfl) (fun _ h => by cases h) blifRuns_row_tie rfl ⟨rfl,rfl⟩ pf_main rfl
  (fun f fn hf hfn => by
   obtain rfl : f = 5 := Option.some.inj (blifRuns_name.symm.trans hf) |>.symm;obtain rfl : fn = Tryz.f5 := (Option.some.inj (Tryz.func5.symm.trans hfn)).symm;exact ⟨pf_looks,fun j t ht => by
    have hm : t ∈ Tryz.f5.params.toList := by simpa using Array.mem_of_getElem? ht
    have hall : (Tryz.f5.params.toList.all fun u => !Tryz.prog.wantsStandIn u) = true := by kernel_rfl
    exact (show Tryz.prog.wantsStandIn t = false by simpa using zrs.1 hall t hm)⟩)
  blifRuns_goes
#print axioms blifRuns_card
end Go.Proofs.YtokppohljajhjaaGreatDoor
