/- Functions of the program, part B21. -/
import Derived.Test.YtboolnpmlmgpkaaGreatDoorFN36
import Derived.Test.YtboolnpmlmgpkaaGreatDoorFN20f
import Derived.Test.YtboolnpmlmgpkaaGreatDoorCards
import Derived.SevenTiedAt
set_option linter.unusedVariables false
set_option maxRecDepth 20000
/- The statement WitnessBack: whatever the input, the law says true; where what it is handed is of bulk at most 1048576; its card, tied to the text of the program. -/
set_option linter.unusedSimpArgs false
set_option linter.unnecessarySimpa false
namespace Go.Proofs.YtboolnpmlmgpkaaGreatDoor
open Go Go.Proofs Go.Abs Go.RowKit

set_option maxRecDepth 100000 in
theorem witnessBack_reads (os : Os) {H : Type} (enc : TypeId × Value → H) : ∃ places, DataW.whole enc Tryz.prog ((World.doorLaid Tryz.prog 400 os).forCall (fun _ _ => 0) ⟨#[], #[.agg #[.int .i64 0, .slice none 0 0, .slice none 0 0], .string ⟨#[]⟩], []⟩).memory Tryz.f10.params.toList Rows.witnessBackSpec.vars false #[.agg #[.int .i64 0, .slice none 0 0, .slice none 0 0], .string ⟨#[]⟩].toList 8 = some ([.agg [.lit (.int .i64 0), .nil, .nil], .lit (.string [])], [], places) :=
  ⟨[], by kernel_rfl⟩
set_option maxRecDepth 100000 in
theorem witnessBack_liftedU (os : Os) (started : os.Started) (H : Type) (enc : TypeId × Value → H) (F : Stop.Interp) :
    ReturnsInHanded {} Tryz.checked os 10 .any ((Rows.OpenSpec.upto Rows.witnessBackSpec).preRow enc Tryz.prog Tryz.f10 Rows.witnessBackUptoRow.domain false Rows.witnessBackUptoRow.laid) (((Rows.OpenSpec.upto Rows.witnessBackSpec).at F).post enc Tryz.prog Tryz.f10 false true false false) := by
  obtain ⟨places, hx⟩ := witnessBack_reads os enc
  refine returnsInHanded_of_row (C := Tryz.checked) (s := Rows.OpenSpec.upto Rows.witnessBackSpec) own started (by kernel_rfl) Tryz.func10
    (witness_row_atRef (enc := enc) (C := Tryz.checked) false (World.doorLaid Tryz.prog 400 os) #[.agg #[.int .i64 0, .slice none 0 0, .slice none 0 0], .string ⟨#[]⟩] rfl (by kernel_rfl) (by kernel_rfl) (by kernel_rfl)
      (OpenSpec.preRow_of_cond 8 hx (by kernel_rfl) (fun k hk => by cases hk; kernel_rfl) (by kernel_rfl) (door_met os _))) ?_
  intro W base args ds gs before hval hW _ hcond _ hL _ _
  refine law_contractG (P := Tryz.prog) (s := Rows.witnessBackSpec) (bulkM H) (shs := [shWi, .str]) laid rfl ?_ (by kernel_rfl) ⟨_, rfl, by kernel_rfl⟩ rfl ?_ TE rfl ?_ W base args ds gs before hval hW (bulk_parts (hcond _ rfl)) (gl_of_laid hL) (of_laid hL)
  · intro i sh t h1 h2
    have : i < 2 := by have := (List.getElem?_eq_some_iff.1 h1).1; simpa using this
    have k0 : Sh.ok Tryz.prog (shWi) 54 = true ∧ Sh.fat Tryz.prog (shWi) 54 = true := ⟨by kernel_rfl, by kernel_rfl⟩
    have k1 : Sh.ok Tryz.prog (.str) 9 = true ∧ Sh.fat Tryz.prog (.str) 9 = true := ⟨by kernel_rfl, by kernel_rfl⟩
    match i, this with
    | 0, _ => cases h1; cases h2; exact k0
    | 1, _ => cases h1; cases h2; exact k1
  · intro ds hd
    match ds, hd with
    | [d1, d2], _ => exact ⟨rfl, rfl, rfl⟩
  · intro us hus
    simp only [Sh.Szs] at hus
    obtain ⟨u0, _, rfl, h0, u1, _, rfl, h1, rfl⟩ := hus
    obtain ⟨x0, rfl, hx0⟩ := sz_wi2 h0
    obtain ⟨x1, rfl, hx1⟩ := sz_str h1
    exact ev_back x0 x1 (flat_bulk hx0)

set_option maxRecDepth 100000
theorem witnessBack_name : Tryz.pinned.checked.prog.funcNamed "patchbay/patchbaylaw22.WitnessBack" = some 10 := by kernel_rfl
theorem witnessBack_inPlace : (Rows.witnessBackUptoRow.inPlace == Tryz.pinned.checked.prog.inPlace 10) = true := by kernel_rfl
theorem witnessBack_unf : (Rows.witnessBackUptoRow.unfollowed == Tryz.pinned.checked.prog.unfollowed 10) = true := by kernel_rfl
theorem witnessBack_rec : (Rows.witnessBackUptoRow.recurses == Tryz.pinned.checked.prog.recurses 10) = true := by kernel_rfl
theorem witnessBack_vars : (Rows.witnessBackUptoRow.named == Tryz.pinned.checked.prog.varsNamed 10) = true := by kernel_rfl
theorem witnessBack_goes : false = Rows.witnessBackUptoRow.goesBy Tryz.pinned.checked.prog := by kernel_rfl
theorem witnessBack_closed : joinedFacts Tryz.pinned.checked.prog 10 Tryz.f10 (Rows.OpenSpec.upto Rows.witnessBackSpec).bare Rows.witnessBackUptoRow = true := by
  unfold joinedFacts
  iterate 5 refine Bool.and_eq_true_iff.2 ⟨?_, by kernel_rfl⟩
  refine Bool.and_eq_true_iff.2 ⟨?_, pf_lifts⟩
  refine Bool.and_eq_true_iff.2 ⟨?_, pf_enter⟩
  refine Bool.and_eq_true_iff.2 ⟨?_, pf_heard⟩
  refine Bool.and_eq_true_iff.2 ⟨?_, by kernel_rfl⟩
  refine Bool.and_eq_true_iff.2 ⟨?_, pf_plain⟩
  iterate 9 refine Bool.and_eq_true_iff.2 ⟨?_, by kernel_rfl⟩
  refine Bool.and_eq_true_iff.2 ⟨?_, witnessBack_vars⟩
  refine Bool.and_eq_true_iff.2 ⟨?_, witnessBack_rec⟩
  refine Bool.and_eq_true_iff.2 ⟨?_, witnessBack_unf⟩
  refine Bool.and_eq_true_iff.2 ⟨?_, witnessBack_inPlace⟩
  refine Bool.and_eq_true_iff.2 ⟨?_, pf_knobs⟩
  refine Bool.and_eq_true_iff.2 ⟨?_, by kernel_rfl⟩
  refine Bool.and_eq_true_iff.2 ⟨?_, pf_stops⟩
  refine Bool.and_eq_true_iff.2 ⟨?_, by kernel_rfl⟩
  refine Bool.and_eq_true_iff.2 ⟨?_, by kernel_rfl⟩
  refine Bool.and_eq_true_iff.2 ⟨?_, by kernel_rfl⟩
  refine Bool.and_eq_true_iff.2 ⟨?_, pf_maps⟩
  exact Bool.and_eq_true_iff.2 ⟨by kernel_rfl, pf_laid⟩

theorem witnessBack_holdsU : Rows.WitnessBackUptoSaid :=
  OpenClaim.holds_of_cond 10 Tryz.f10 rfl rfl rfl rfl rfl rfl rfl ⟨rfl, rfl, rfl, rfl, rfl⟩ rfl rfl rfl rfl rfl witnessBack_name Tryz.func10 witnessBack_closed
    (of_decide_eq_true (by kernel_rfl)) (by unfold Func.isWrapper; first | (rw [if_pos (by decide +kernel)]; kernel_rfl) | (rw [if_neg (by decide +kernel)]; exact ⟨rfl, rfl⟩))
    (fun os started H enc _ F => by rw [OpenClaim.pre_eq_preRow]; exact witnessBack_liftedU os started H enc F)

theorem witnessBack_cardU : Rows.WitnessBackUptoCardSaid :=
  Claim7.holds_tied_plain_at .later [] [.data, .data, .data, .handle, .sentinel, .sentinel, .wider] true (true, "29196b330cf1e532a7874e12d148bce46726bfc279db6007120eef52939e3d65") true
    witnessBack_holdsU (fun _ h => by cases h) (by kernel_rfl) (fun _ h => by cases h) witnessBackUpto_row_tie rfl ⟨rfl, rfl⟩ pf_main rfl
    (fun f fn hf hfn => by
      obtain rfl : f = 10 := Option.some.inj (witnessBack_name.symm.trans hf) |>.symm
      obtain rfl : fn = Tryz.f10 := (Option.some.inj (Tryz.func10.symm.trans hfn)).symm
      exact ⟨pf_looks, fun j t ht => by
        have hm : t ∈ Tryz.f10.params.toList := by simpa using Array.mem_of_getElem? ht
        have hall : (Tryz.f10.params.toList.all fun u => !Tryz.prog.wantsStandIn u) = true := by kernel_rfl
        exact (show Tryz.prog.wantsStandIn t = false by simpa using List.all_eq_true.1 hall t hm)⟩)
    witnessBack_goes

#print axioms witnessBack_cardU

end Go.Proofs.YtboolnpmlmgpkaaGreatDoor
