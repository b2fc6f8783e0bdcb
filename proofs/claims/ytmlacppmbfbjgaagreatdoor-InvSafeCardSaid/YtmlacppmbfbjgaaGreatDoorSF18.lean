/- Lemmas for this claim, part F18: each holds under what it names. -/
import Derived.Test.YtmlacppmbfbjgaaGreatDoorSF17
import Derived.JoinedOf
set_option linter.unusedVariables false
set_option linter.unusedSimpArgs false
set_option maxRecDepth 100000
namespace Go.Proofs.YtmlacppmbfbjgaaGreatDoor
open Go Go.Proofs Go.Abs Go.RowKit
theorem pf_laid:laidOutB Tryz.pinned.checked.prog=true:=by kernel_rfl
theorem pf_maps:mapsRowed Tryz.pinned.checked.prog=true:=by kernel_rfl
theorem pf_stops:(Tryz.pinned.checked.prog.stops==[])=true:=by kernel_rfl
theorem pf_knobs:(Tryz.pinned.checked.prog.stopKnobs==[])=true:=by kernel_rfl
theorem pf_heard:Tryz.pinned.checked.prog.stopsHeard=true:=by kernel_rfl
theorem pf_enter:Tryz.pinned.checked.prog.mayEnter=true:=by kernel_rfl
theorem pf_lifts:(Rows.invTellsRow.lifted==Tryz.pinned.checked.prog.liftsFinal)=true:=by kernel_rfl
theorem pf_plain:(Rows.invTellsRow.plainKeys==Tryz.pinned.checked.prog.plainKeys)=true:=by kernel_rfl
theorem pf_main : Tryz.pinned.checked.prog.mainIs = some (true, "5a7e733d84d79b06a6fec9a70d26ae24888720b55f6f20621448314c534cb8d2".toList) := by kernel_rfl
theorem pf_looks:true=Tryz.pinned.checked.prog.looks []:=by kernel_rfl
end Go.Proofs.YtmlacppmbfbjgaaGreatDoor
