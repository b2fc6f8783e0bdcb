/-
  No cell of these rows narrows 'for every input' (looked for: loops, veiled, ifaces, maps, wideKeys, modest, calm, conditions, laid).
  DERIVED. THE GIVEN ROWS OF THIS SEAT. 2 by the template 'for every input the law returns true; each argument reads behind the call as it read before'; 0 by the template 'total and deterministic' (their statements: YthdidjjecjhenaaGreatTotals.lean).
  GIVEN WITH THE SEED: the statements are not yours to turn. If you find one false, say at which input.
  Laid BY PROGRAM, IN A SANDBOX (cutbox-rows.mjs): the forced cells as the released guide's own fill.sh prints them over the translation 19629cf8564f8f4f… (all of the seat's roots in one cut). By AI agents, Wed Nov 11 2026. No macro, syntax, notation, axiom, sorry.
-/
import Derived.Test.YthdidjjecjhenaaGreatChecked
import GoSem.Claim
import GoSem.ClaimJoined
import GoSem.ClaimMapViews
import Derived.JoinedTies
import Derived.KernelRfl
namespace Go.Proofs.YthdidjjecjhenaaGreat
/- THE CELL 'sum', in the pinned program and in every row, IS THE sha256 OF THE DUMP (.gsa) THAT YthdidjjecjhenaaGreatProg.lean LOADS. Nothing in Lean hashes anything: it is a label: what it is worth is what the hold of that sum in a sandbox is worth. -/
noncomputable def Tryz.pinned : Pinned := { name := "ythdidjjecjhenaagreat", sum := "19629cf8564f8f4fdfe0e818c392d330c2f21e12d0149e067d6e3647652f709c", checked := Tryz.checked }
namespace Rows
def none {H : Type} : Left H := { results := [], args := [] }

/-- 'patchbaylaw24.CrossReplays': WHATEVER THE INPUT: true; the input reads as it did. -/
def crossReplaysSpec : ChangeSpec := { name := "crossReplays", fn := fun _ => fun
  | [d1, d2, d3, d4] => { results := [.lit (.bool true)], args := [d1, d2, d3, d4] }
  | _ => none }
def crossReplaysRow : OpenClaim := { program := "ythdidjjecjhenaagreat", sum := "19629cf8564f8f4fdfe0e818c392d330c2f21e12d0149e067d6e3647652f709c", func := "patchbay/patchbaylaw24.CrossReplays", spec := "crossReplays", unfollowed := true, recurses := true, plainKeys := false, apart := false }
def CrossReplaysSaid : Prop := crossReplaysRow.holds Tryz.pinned (OpenSpec.ofChange crossReplaysSpec)

/-- ITS FALSE NEIGHBOUR: 'it returns false'. Refute it at one input. -/
def crossReplaysWrong : ChangeSpec := { name := "crossReplays", fn := fun _ => fun
  | [d1, d2, d3, d4] => { results := [.lit (.bool false)], args := [d1, d2, d3, d4] }
  | _ => none }
def CrossReplaysWrongFalsely : Prop := crossReplaysRow.holds Tryz.pinned (OpenSpec.ofChange crossReplaysWrong)

/-- 'patchbaylaw24.CrossAgrees': WHATEVER THE INPUT: true; the input reads as it did. -/
def crossAgreesSpec : ChangeSpec := { name := "crossAgrees", fn := fun _ => fun
  | [d1, d2, d3, d4, d5] => { results := [.lit (.bool true)], args := [d1, d2, d3, d4, d5] }
  | _ => none }
def crossAgreesRow : OpenClaim := { program := "ythdidjjecjhenaagreat", sum := "19629cf8564f8f4fdfe0e818c392d330c2f21e12d0149e067d6e3647652f709c", func := "patchbay/patchbaylaw24.CrossAgrees", spec := "crossAgrees", unfollowed := true, recurses := true, plainKeys := false, apart := false }
def CrossAgreesSaid : Prop := crossAgreesRow.holds Tryz.pinned (OpenSpec.ofChange crossAgreesSpec)

/-- ITS FALSE NEIGHBOUR: 'it returns false'. Refute it at one input. -/
def crossAgreesWrong : ChangeSpec := { name := "crossAgrees", fn := fun _ => fun
  | [d1, d2, d3, d4, d5] => { results := [.lit (.bool false)], args := [d1, d2, d3, d4, d5] }
  | _ => none }
def CrossAgreesWrongFalsely : Prop := crossAgreesRow.holds Tryz.pinned (OpenSpec.ofChange crossAgreesWrong)

/- THE SECOND FORM. 'bulk': how many values and letters a reading holds, each counted each time it is reached (what is shared counts as often as it is met; a slice's spare places count too). A statement '..UptoSaid' is the law's where the arguments, and the package variables that the reading takes, are together of bulk at most 1048576: NARROWER than '..Said'. Prove '..Said' where nothing that the law and all that it calls make is longer than what came in: it says more and counts as full. Else prove '..UptoSaid'. A law counts once. -/
mutual
def uptoBulk {H : Type} : DataW H → Nat
  | .lit (.string bytes) => bytes.length + 1
  | .lit _ => 1
  | .nil => 1
  | .ptr d => uptoBulk d + 1
  | .slice elems spare => uptoBulkAll elems + uptoBulkAll spare + 1
  | .agg parts => uptoBulkAll parts + 1
  | .iface _ d => uptoBulk d + 1
  | .map entries => uptoBulkEntries entries + 1
  | .held _ => 1
def uptoBulkAll {H : Type} : List (DataW H) → Nat
  | [] => 0
  | d :: r => uptoBulk d + uptoBulkAll r
def uptoBulkEntries {H : Type} : List (Lit × DataW H) → Nat
  | [] => 0
  | x :: r => uptoBulkEntry x + uptoBulkEntries r
def uptoBulkEntry {H : Type} : Lit × DataW H → Nat
  | (.string bytes, d) => bytes.length + uptoBulk d + 1
  | (_, d) => uptoBulk d + 1
 end
def uptoSmall : (H : Type) → List (DataW H) → Bool := fun _ ds => decide (uptoBulkAll ds ≤ 1048576)
def OpenSpec.upto (s : _root_.Go.ChangeSpec) : _root_.Go.OpenSpec := { _root_.Go.OpenSpec.ofChange s with cond := some uptoSmall }

/-- 'patchbaylaw24.CrossReplays', WHERE WHAT IT READS IS OF BULK AT MOST 1048576: true; the input reads as it did. -/
def crossReplaysUptoRow : OpenClaim := { program := "ythdidjjecjhenaagreat", sum := "19629cf8564f8f4fdfe0e818c392d330c2f21e12d0149e067d6e3647652f709c", func := "patchbay/patchbaylaw24.CrossReplays", spec := "crossReplays", unfollowed := true, recurses := true, plainKeys := false, apart := false, narrowed := true }
def CrossReplaysUptoSaid : Prop := crossReplaysUptoRow.holds Tryz.pinned (OpenSpec.upto crossReplaysSpec)

/-- 'patchbaylaw24.CrossAgrees', WHERE WHAT IT READS IS OF BULK AT MOST 1048576: true; the input reads as it did. -/
def crossAgreesUptoRow : OpenClaim := { program := "ythdidjjecjhenaagreat", sum := "19629cf8564f8f4fdfe0e818c392d330c2f21e12d0149e067d6e3647652f709c", func := "patchbay/patchbaylaw24.CrossAgrees", spec := "crossAgrees", unfollowed := true, recurses := true, plainKeys := false, apart := false, narrowed := true }
def CrossAgreesUptoSaid : Prop := crossAgreesUptoRow.holds Tryz.pinned (OpenSpec.upto crossAgreesSpec)

end Rows
end Go.Proofs.YthdidjjecjhenaaGreat
