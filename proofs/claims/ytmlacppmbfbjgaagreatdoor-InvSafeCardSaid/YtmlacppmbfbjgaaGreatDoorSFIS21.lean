/- The statement that this claim is about: whatever the input, the law says true; its card, tied to the text of the program. -/
import Derived.Test.YtmlacppmbfbjgaaGreatDoorSF18
import Derived.Test.YtmlacppmbfbjgaaGreatDoorCards
import Derived.SevenTiedAt
set_option linter.unusedVariables false
set_option linter.unusedSimpArgs false
set_option linter.unnecessarySimpa false
set_option maxRecDepth 100000
namespace Go.Proofs.YtmlacppmbfbjgaaGreatDoor
open Go Go.Proofs Go.Abs Go.RowKit
theorem invSafe_lifted (os : Os) (started : os.Started) (H : Type) (enc : TypeId × Value → H) :
 ReturnsInHanded {} Tryz.checked os 5 .any (fun w args => (Rows.invSafeSpec.pre enc Tryz.prog Tryz.f5 [] false w args ∧ laidMetH Tryz.prog LL w) ∧ sizedMet enc Tryz.prog Tryz.f5 (OpenSpec.ofChange Rows.invSafeSpec) false w args)
  (Rows.invSafeSpec.post enc Tryz.prog Tryz.f5 false true false false) := by
 refine returnsInHanded_of_change_and (C := Tryz.checked) (X := fun w _ => laidMetH Tryz.prog LL w) (fun _ _ _ hh h => h.of_heap hh) own started (by kernel_rfl) Tryz.func5
  (ChangeSpec.witness_shaped (enc := enc) (C := Tryz.checked) (os := os) (X := fun w _ => laidMetH Tryz.prog LL w) false (World.laidAll Tryz.prog os LL) #[.agg #[.int .i64 0,.slice none 0 0,.slice none 0 0,.slice none 0 0,.slice none 0 0,.slice none 0 0,.slice none 0 0,.slice none 0 0],.slice none 0 0,.int .i64 0,.slice none 0 0,.slice none 0 0] 8 (World.laidAll_os _ _ _) (World.shaped_of_ZipB (by kernel_rfl) (by kernel_rfl)) (by kernel_rfl) (by kernel_rfl) (by kernel_rfl) (door_met os _)) ?_
 intro W base args ds gs before hval hW _ hwt hL _;refine law_contractG (P := Tryz.prog) (reachM H Tryz.prog) (shs := [shMo,shLss,.int .i64,shBs,shRws]) laid rfl ?_ (by kernel_rfl) ⟨_,rfl,by kernel_rfl⟩ rfl ?_ TE rfl ?_ W base args ds gs before hval hW (reach_of' hwt) (gl_of_laid hL) (of_laid hL)
 ·intro i sh t h1 h2;have : i < 5 := by have := (zqe h1).1;simpa using this
  have k0 : Sh.ok Tryz.prog (shMo) 28 = true ∧ Sh.fat Tryz.prog (shMo) 28 = true := ⟨by kernel_rfl,by kernel_rfl⟩;have k1 : Sh.ok Tryz.prog (shLss) 29 = true ∧ Sh.fat Tryz.prog (shLss) 29 = true := ⟨by kernel_rfl,by kernel_rfl⟩;have k2 : Sh.ok Tryz.prog (.int .i64) 3 = true ∧ Sh.fat Tryz.prog (.int .i64) 3 = true := ⟨by kernel_rfl,by kernel_rfl⟩;have k3 : Sh.ok Tryz.prog (shBs) 32 = true ∧ Sh.fat Tryz.prog (shBs) 32 = true := ⟨by kernel_rfl,by kernel_rfl⟩;have k4 : Sh.ok Tryz.prog (shRws) 58 = true ∧ Sh.fat Tryz.prog (shRws) 58 = true := ⟨by kernel_rfl,by kernel_rfl⟩
  match i,this with
  | 0,_ => cases h1;cases h2;exact k0
  | 1,_ => cases h1;cases h2;exact k1
  | 2,_ => cases h1;cases h2;exact k2
  | 3,_ => cases h1;cases h2;exact k3
  | 4,_ => cases h1;cases h2;exact k4
 ·intro ds hd
  match ds,hd with
  | [d1,d2,d3,d4,d5],_ => exact ⟨rfl,rfl,rfl⟩
 ·intro us hus;simp only [Sh.Szs] at hus;obtain ⟨u0,_,rfl,h0,u1,_,rfl,h1,u2,_,rfl,h2,u3,_,rfl,h3,u4,_,rfl,h4,rfl⟩ := hus;obtain ⟨x0,rfl,hx0⟩ := sz_mo (by decide) h0;obtain ⟨x1,rfl,hx1⟩ := sz_lss h1;obtain ⟨x2,rfl,hx2⟩ := sz_int h2;obtain ⟨x3,rfl,hx3⟩ := sz_bs h3;obtain ⟨x4,rfl,hx4⟩ := sz_rws h4;exact ev_isafe _ _ _ _ _
theorem invSafe_name : Tryz.pinned.checked.prog.funcNamed "patchbay/patchbaylaw23.InvSafe" = some 5 := by kernel_rfl
theorem invSafe_inPlace : (Rows.invSafeRow.inPlace == Tryz.pinned.checked.prog.inPlace 5) = true := by kernel_rfl
theorem invSafe_unf : (Rows.invSafeRow.unfollowed == Tryz.pinned.checked.prog.unfollowed 5) = true := by kernel_rfl
theorem invSafe_rec : (Rows.invSafeRow.recurses == Tryz.pinned.checked.prog.recurses 5) = true := by kernel_rfl
theorem invSafe_vars : (Rows.invSafeRow.named == Tryz.pinned.checked.prog.varsNamed 5) = true := by kernel_rfl
theorem invSafe_goes : false = Rows.invSafeRow.goesBy Tryz.pinned.checked.prog := by kernel_rfl
theorem invSafe_closed : joinedFacts Tryz.pinned.checked.prog 5 Tryz.f5 Rows.invSafeSpec Rows.invSafeRow = true := by
 unfold joinedFacts
 iterate 5 refine Bool.and_eq_true_iff.2 ⟨?_,by kernel_rfl⟩
 refine Bool.and_eq_true_iff.2 ⟨?_,pf_lifts⟩;refine Bool.and_eq_true_iff.2 ⟨?_,pf_enter⟩;refine Bool.and_eq_true_iff.2 ⟨?_,pf_heard⟩;refine Bool.and_eq_true_iff.2 ⟨?_,by kernel_rfl⟩;refine Bool.and_eq_true_iff.2 ⟨?_,pf_plain⟩
 iterate 9 refine Bool.and_eq_true_iff.2 ⟨?_,by kernel_rfl⟩
 refine Bool.and_eq_true_iff.2 ⟨?_,invSafe_vars⟩;refine Bool.and_eq_true_iff.2 ⟨?_,invSafe_rec⟩;refine Bool.and_eq_true_iff.2 ⟨?_,invSafe_unf⟩;refine Bool.and_eq_true_iff.2 ⟨?_,invSafe_inPlace⟩;refine Bool.and_eq_true_iff.2 ⟨?_,pf_knobs⟩;refine Bool.and_eq_true_iff.2 ⟨?_,by kernel_rfl⟩;refine Bool.and_eq_true_iff.2 ⟨?_,pf_stops⟩;refine Bool.and_eq_true_iff.2 ⟨?_,by kernel_rfl⟩;refine Bool.and_eq_true_iff.2 ⟨?_,by kernel_rfl⟩;refine Bool.and_eq_true_iff.2 ⟨?_,by kernel_rfl⟩;refine Bool.and_eq_true_iff.2 ⟨?_,pf_maps⟩;exact Bool.and_eq_true_iff.2 ⟨by kernel_rfl,pf_laid⟩
theorem invSafe_holds : Rows.InvSafeSaid :=
 OpenClaim.holds_of_wide 5 Tryz.f5 rfl rfl rfl rfl rfl rfl rfl ⟨rfl,rfl,rfl,rfl,rfl⟩ rfl rfl rfl rfl rfl invSafe_name Tryz.func5 invSafe_closed
  (zqs (by kernel_rfl)) (by unfold Func.isWrapper;first | (rw [if_pos (by decide +kernel)];kernel_rfl) | (rw [if_neg (by decide +kernel)];exact ⟨rfl,rfl⟩))
  (fun os started H enc _ => invSafe_lifted os started H enc)
theorem invSafe_card : Rows.InvSafeCardSaid :=
 Claim7.holds_tied_plain_at .later [] [.data, .wider, .pinned] true (true, "5a7e733d84d79b06a6fec9a70d26ae24888720b55f6f20621448314c534cb8d2") true
  invSafe_holds (fun _ h => by cases h) (by kernel_rfl) (fun _ h => by cases h) invSafe_row_tie rfl ⟨rfl,rfl⟩ pf_main rfl
  (fun f fn hf hfn => by
   obtain rfl : f = 5 := Option.some.inj (invSafe_name.symm.trans hf) |>.symm;obtain rfl : fn = Tryz.f5 := (Option.some.inj (Tryz.func5.symm.trans hfn)).symm;exact ⟨pf_looks,fun j t ht => by
    have hm : t ∈ Tryz.f5.params.toList := by simpa using Array.mem_of_getElem? ht
    have hall : (Tryz.f5.params.toList.all fun u => !Tryz.prog.wantsStandIn u) = true := by kernel_rfl
    exact (show Tryz.prog.wantsStandIn t = false by simpa using zrs.1 hall t hm)⟩)
  invSafe_goes
#print axioms invSafe_card
end Go.Proofs.YtmlacppmbfbjgaaGreatDoor
