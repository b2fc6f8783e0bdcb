/- The statement that this claim is about: whatever the input, the law says true; its card, tied to the text of the program. -/
import Derived.Test.YthaijohbpdabfaaGreatDoorRF16
import Derived.Test.YthaijohbpdabfaaGreatDoorRF17
import Derived.Test.YthaijohbpdabfaaGreatDoorCards
import Derived.SevenTiedAt
set_option linter.all false
set_option maxRecDepth 100000
namespace Go.Proofs.YthaijohbpdabfaaGreatDoor
open Go Go.Proofs Go.Abs Go.RowKit
theorem benchRuns_lifted (os : Os) (started : os.Started) (H : Type) (enc : TypeId × Value → H) :
 ReturnsInHanded {} Tryz.checked os 7 .any (fun w args => (Rows.benchRunsSpec.pre enc Tryz.prog Tryz.f7 [] false w args ∧ laidMetH Tryz.prog LLn w) ∧ sizedMet enc Tryz.prog Tryz.f7 (OpenSpec.ofChange Rows.benchRunsSpec) false w args)
  (Rows.benchRunsSpec.post enc Tryz.prog Tryz.f7 false true false false) := by
 refine rih_andS (C := Tryz.checked) (X := fun w _ => laidMetH Tryz.prog LLn w) (fun _ _ _ hh h => h.of_heap hh) own started (by kernel_rfl) Tryz.func7
  (ChangeSpec.witness_shaped (enc := enc) (C := Tryz.checked) (os := os) (X := fun w _ => laidMetH Tryz.prog LLn w) false (Ie os) #[.agg #[.slice none 0 0,.slice none 0 0,.slice none 0 0,.slice none 0 0],.slice none 0 0,.slice none 0 0] 8 (World.layVars_os _ _ _) (World.shaped_of_ZipB (by kernel_rfl) (by kernel_rfl)) (by kernel_rfl) (by kernel_rfl) (by kernel_rfl) (door_metN os _)) ?_
 intro W base args ds gs before hval hW hwt hL hsh;obtain ⟨mo,hgl,hgx⟩ := laid_moN hL hsh;refine law_contractG (P := Tryz.prog) (reachM H Tryz.prog) (shs := [shCi,shBs,shBs]) laid rfl ?_ (by kernel_rfl) ⟨_,rfl,by kernel_rfl⟩ rfl ?_ (@TE mo) rfl ?_ W base args ds gs before hval hW (reach_of' hwt) hgl hgx
 ·intro i sh t h1 h2;have : i < 3 := by have := (zqe h1).1;simpa using this
  have k0 : Sh.ok Tryz.prog (shCi) 27 = true ∧ Sh.fat Tryz.prog (shCi) 27 = true := ⟨by kernel_rfl,by kernel_rfl⟩;have k1 : Sh.ok Tryz.prog (shBs) 40 = true ∧ Sh.fat Tryz.prog (shBs) 40 = true := ⟨by kernel_rfl,by kernel_rfl⟩;have k2 : Sh.ok Tryz.prog (shBs) 40 = true ∧ Sh.fat Tryz.prog (shBs) 40 = true := ⟨by kernel_rfl,by kernel_rfl⟩
  match i,this with
  | 0,_ => cases h1;cases h2;exact k0
  | 1,_ => cases h1;cases h2;exact k1
  | 2,_ => cases h1;cases h2;exact k2
 ·intro ds hd
  match ds,hd with
  | [d1,d2,d3],_ => exact ⟨rfl,rfl,rfl⟩
 ·intro us hus;simp only [Sh.Szs] at hus;obtain ⟨u0,_,rfl,h0,u1,_,rfl,h1,u2,_,rfl,h2,rfl⟩ := hus;obtain ⟨x0,rfl,hx0⟩ := sz_ci (by decide) h0;obtain ⟨x1,rfl⟩ := sz_bs h1;obtain ⟨x2,rfl⟩ := sz_bs h2;exact @ev_BenchRuns mo x0 hx0 x1 x2
theorem benchRuns_name : Tryz.pinned.checked.prog.funcNamed "patchbay/patchbaylaw16.BenchRuns" = some 7 := by kernel_rfl
theorem benchRuns_inPlace : (Rows.benchRunsRow.inPlace == Tryz.pinned.checked.prog.inPlace 7) = true := by kernel_rfl
theorem benchRuns_unf : (Rows.benchRunsRow.unfollowed == Tryz.pinned.checked.prog.unfollowed 7) = true := by kernel_rfl
theorem benchRuns_rec : (Rows.benchRunsRow.recurses == Tryz.pinned.checked.prog.recurses 7) = true := by kernel_rfl
theorem benchRuns_vars : (Rows.benchRunsRow.named == Tryz.pinned.checked.prog.varsNamed 7) = true := by kernel_rfl
theorem benchRuns_goes : false = Rows.benchRunsRow.goesBy Tryz.pinned.checked.prog := by kernel_rfl
theorem benchRuns_closed : joinedFacts Tryz.pinned.checked.prog 7 Tryz.f7 Rows.benchRunsSpec Rows.benchRunsRow = true := by
 unfold joinedFacts
 iterate 5 refine Bool.and_eq_true_iff.2 ⟨?_,by kernel_rfl⟩
 refine Bool.and_eq_true_iff.2 ⟨?_,pf_lifts⟩;refine Bool.and_eq_true_iff.2 ⟨?_,pf_enter⟩;refine Bool.and_eq_true_iff.2 ⟨?_,pf_heard⟩;refine Bool.and_eq_true_iff.2 ⟨?_,by kernel_rfl⟩;refine Bool.and_eq_true_iff.2 ⟨?_,pf_plain⟩
 iterate 9 refine Bool.and_eq_true_iff.2 ⟨?_,by kernel_rfl⟩
 refine Bool.and_eq_true_iff.2 ⟨?_,benchRuns_vars⟩;refine Bool.and_eq_true_iff.2 ⟨?_,benchRuns_rec⟩;refine Bool.and_eq_true_iff.2 ⟨?_,benchRuns_unf⟩;refine Bool.and_eq_true_iff.2 ⟨?_,benchRuns_inPlace⟩;refine Bool.and_eq_true_iff.2 ⟨?_,pf_knobs⟩;refine Bool.and_eq_true_iff.2 ⟨?_,by kernel_rfl⟩;refine Bool.and_eq_true_iff.2 ⟨?_,pf_stops⟩;refine Bool.and_eq_true_iff.2 ⟨?_,by kernel_rfl⟩;refine Bool.and_eq_true_iff.2 ⟨?_,by kernel_rfl⟩;refine Bool.and_eq_true_iff.2 ⟨?_,by kernel_rfl⟩;refine Bool.and_eq_true_iff.2 ⟨?_,pf_maps⟩;exact Bool.and_eq_true_iff.2 ⟨by kernel_rfl,pf_laid⟩
theorem benchRuns_holds : Rows.BenchRunsSaid :=
 OpenClaim.holds_of_wide 7 Tryz.f7 rfl rfl rfl rfl rfl rfl rfl ⟨rfl,rfl,rfl,rfl,rfl⟩ rfl rfl rfl rfl rfl benchRuns_name Tryz.func7 benchRuns_closed
  (zqs (by kernel_rfl)) (by unfold Func.isWrapper;first | (rw [if_pos (by decide +kernel)];kernel_rfl) | (rw [if_neg (by decide +kernel)];exact ⟨rfl,rfl⟩))
  (fun os started H enc _ => benchRuns_lifted os started H enc)
theorem benchRuns_card : Rows.BenchRunsCardSaid :=
 Claim7.holds_tied_plain_at .later [] [.data, .data, .data, .data, .wider, .mapped, .mapped, .widerDeep, .widerDeep, .mapped, .mapped, .pinned] true (true, "277376348e67c6e4505156191ba0faf005bbeea4c685b33672f996eaf3e381ba") true
  benchRuns_holds (fun _ h => by cases h) (by kernel_rfl) (fun _ h => by cases h) benchRuns_row_tie rfl ⟨rfl,rfl⟩ pf_main rfl
  (fun f fn hf hfn => by
   obtain rfl : f = 7 := Option.some.inj (benchRuns_name.symm.trans hf) |>.symm;obtain rfl : fn = Tryz.f7 := (Option.some.inj (Tryz.func7.symm.trans hfn)).symm;exact ⟨pf_looks,fun j t ht => by
    have hm : t ∈ Tryz.f7.params.toList := by simpa using Array.mem_of_getElem? ht
    have hall : (Tryz.f7.params.toList.all fun u => !Tryz.prog.wantsStandIn u) = true := by kernel_rfl
    exact (show Tryz.prog.wantsStandIn t = false by simpa using zrs.1 hall t hm)⟩)
  benchRuns_goes
#print axioms benchRuns_card
end Go.Proofs.YthaijohbpdabfaaGreatDoor
