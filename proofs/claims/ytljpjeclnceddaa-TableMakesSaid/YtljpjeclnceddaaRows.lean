/-
  No cell of these rows narrows 'for every input' (looked for: loops, veiled, ifaces, maps, wideKeys, modest, calm, conditions, laid).
  DERIVED. THE GIVEN ROWS OF THIS SEAT. 5 by the template 'for every input the law returns true; each argument reads behind the call as it read before'; 0 by the template 'total and deterministic' (their statements: YtljpjeclnceddaaTotals.lean).
  GIVEN WITH THE SEED: the statements are not yours to turn. If you find one false, say at which input.
  Laid BY PROGRAM, IN A SANDBOX (cutbox-rows.mjs): the forced cells as the released guide's own fill.sh prints them over the translation 9a3c8f5e40deafda… (all of the seat's roots in one cut). By AI agents, Wed Nov 11 2026. No macro, syntax, notation, axiom, sorry.
-/
import Derived.Test.YtljpjeclnceddaaChecked
import GoSem.Claim
import GoSem.ClaimJoined
import GoSem.ClaimMapViews
import Derived.JoinedTies
import Derived.KernelRfl
namespace Go.Proofs.Ytljpjeclnceddaa
/- THE CELL 'sum', in the pinned program and in every row, IS THE sha256 OF THE DUMP (.gsa) THAT YtljpjeclnceddaaProg.lean LOADS. Nothing in Lean hashes anything: it is a label: what it is worth is what the hold of that sum in a sandbox is worth. -/
noncomputable def Try.pinned : Pinned := { name := "ytljpjeclnceddaa", sum := "9a3c8f5e40deafda988bedc8d26f40bb2961933877d00edae5b2e8fbff119c1c", checked := Try.checked }
namespace Rows
def none {H : Type} : Left H := { results := [], args := [] }

/-- 'patchbaylaw05.TableTells': WHATEVER THE INPUT: true; the input reads as it did. -/
def tableTellsSpec : ChangeSpec := { name := "tableTells", fn := fun _ => fun
  | [d1, d2, d3] => { results := [.lit (.bool true)], args := [d1, d2, d3] }
  | _ => none }
def tableTellsRow : OpenClaim := { program := "ytljpjeclnceddaa", sum := "9a3c8f5e40deafda988bedc8d26f40bb2961933877d00edae5b2e8fbff119c1c", func := "patchbay/patchbaylaw05.TableTells", spec := "tableTells", unfollowed := true, recurses := true, apart := false }
def TableTellsSaid : Prop := tableTellsRow.holds Try.pinned (OpenSpec.ofChange tableTellsSpec)

/-- ITS FALSE NEIGHBOUR: 'it returns false'. Refute it at one input. -/
def tableTellsWrong : ChangeSpec := { name := "tableTells", fn := fun _ => fun
  | [d1, d2, d3] => { results := [.lit (.bool false)], args := [d1, d2, d3] }
  | _ => none }
def TableTellsWrongFalsely : Prop := tableTellsRow.holds Try.pinned (OpenSpec.ofChange tableTellsWrong)

/-- 'patchbaylaw05.TableMakes': WHATEVER THE INPUT: true; the input reads as it did. -/
def tableMakesSpec : ChangeSpec := { name := "tableMakes", fn := fun _ => fun
  | [d1, d2, d3] => { results := [.lit (.bool true)], args := [d1, d2, d3] }
  | _ => none }
def tableMakesRow : OpenClaim := { program := "ytljpjeclnceddaa", sum := "9a3c8f5e40deafda988bedc8d26f40bb2961933877d00edae5b2e8fbff119c1c", func := "patchbay/patchbaylaw05.TableMakes", spec := "tableMakes", unfollowed := true, recurses := true, apart := false }
def TableMakesSaid : Prop := tableMakesRow.holds Try.pinned (OpenSpec.ofChange tableMakesSpec)

/-- ITS FALSE NEIGHBOUR: 'it returns false'. Refute it at one input. -/
def tableMakesWrong : ChangeSpec := { name := "tableMakes", fn := fun _ => fun
  | [d1, d2, d3] => { results := [.lit (.bool false)], args := [d1, d2, d3] }
  | _ => none }
def TableMakesWrongFalsely : Prop := tableMakesRow.holds Try.pinned (OpenSpec.ofChange tableMakesWrong)

/-- 'patchbaylaw05.TableBack': WHATEVER THE INPUT: true; the input reads as it did. -/
def tableBackSpec : ChangeSpec := { name := "tableBack", fn := fun _ => fun
  | [d1, d2] => { results := [.lit (.bool true)], args := [d1, d2] }
  | _ => none }
def tableBackRow : OpenClaim := { program := "ytljpjeclnceddaa", sum := "9a3c8f5e40deafda988bedc8d26f40bb2961933877d00edae5b2e8fbff119c1c", func := "patchbay/patchbaylaw05.TableBack", spec := "tableBack", unfollowed := true, recurses := true, apart := false }
def TableBackSaid : Prop := tableBackRow.holds Try.pinned (OpenSpec.ofChange tableBackSpec)

/-- ITS FALSE NEIGHBOUR: 'it returns false'. Refute it at one input. -/
def tableBackWrong : ChangeSpec := { name := "tableBack", fn := fun _ => fun
  | [d1, d2] => { results := [.lit (.bool false)], args := [d1, d2] }
  | _ => none }
def TableBackWrongFalsely : Prop := tableBackRow.holds Try.pinned (OpenSpec.ofChange tableBackWrong)

/-- 'patchbaylaw05.TableJoins': WHATEVER THE INPUT: true; the input reads as it did. -/
def tableJoinsSpec : ChangeSpec := { name := "tableJoins", fn := fun _ => fun
  | [d1, d2, d3] => { results := [.lit (.bool true)], args := [d1, d2, d3] }
  | _ => none }
def tableJoinsRow : OpenClaim := { program := "ytljpjeclnceddaa", sum := "9a3c8f5e40deafda988bedc8d26f40bb2961933877d00edae5b2e8fbff119c1c", func := "patchbay/patchbaylaw05.TableJoins", spec := "tableJoins", unfollowed := true, recurses := true, apart := false }
def TableJoinsSaid : Prop := tableJoinsRow.holds Try.pinned (OpenSpec.ofChange tableJoinsSpec)

/-- ITS FALSE NEIGHBOUR: 'it returns false'. Refute it at one input. -/
def tableJoinsWrong : ChangeSpec := { name := "tableJoins", fn := fun _ => fun
  | [d1, d2, d3] => { results := [.lit (.bool false)], args := [d1, d2, d3] }
  | _ => none }
def TableJoinsWrongFalsely : Prop := tableJoinsRow.holds Try.pinned (OpenSpec.ofChange tableJoinsWrong)

/-- 'patchbaylaw05.TableMaps': WHATEVER THE INPUT: true; the input reads as it did. -/
def tableMapsSpec : ChangeSpec := { name := "tableMaps", fn := fun _ => fun
  | [d1, d2] => { results := [.lit (.bool true)], args := [d1, d2] }
  | _ => none }
def tableMapsRow : OpenClaim := { program := "ytljpjeclnceddaa", sum := "9a3c8f5e40deafda988bedc8d26f40bb2961933877d00edae5b2e8fbff119c1c", func := "patchbay/patchbaylaw05.TableMaps", spec := "tableMaps", unfollowed := true, recurses := true, apart := false }
def TableMapsSaid : Prop := tableMapsRow.holds Try.pinned (OpenSpec.ofChange tableMapsSpec)

/-- ITS FALSE NEIGHBOUR: 'it returns false'. Refute it at one input. -/
def tableMapsWrong : ChangeSpec := { name := "tableMaps", fn := fun _ => fun
  | [d1, d2] => { results := [.lit (.bool false)], args := [d1, d2] }
  | _ => none }
def TableMapsWrongFalsely : Prop := tableMapsRow.holds Try.pinned (OpenSpec.ofChange tableMapsWrong)

/- THE SECOND FORM. 'bulk': how many values and letters a reading holds, each counted each time it is reached (what is shared counts as often as it is met; a slice's spare places count too). A statement '..UptoSaid' is the law's where the arguments, and the package variables that the reading takes, are together of bulk at most 1048576: NARROWER than '..Said'. Prove '..Said' where nothing that the law and all that it calls make is longer than what came in: it says more and counts as full. Else prove '..UptoSaid'. A law counts once. -/
mutual
def uptoBulk {H : Type} : DataW H → Nat
  | .lit (.string bytes) => bytes.length + 1
  | .lit _ => 1
  | .nil => 1
  | .ptr d => uptoBulk d + 1
  | .slice elems spare => uptoBulkAll elems + uptoBulkAll spare + 1
  | .agg parts => uptoBulkAll parts + 1
  | .iface _ d => uptoBulk d + 1
  | .map entries => uptoBulkEntries entries + 1
  | .held _ => 1
def uptoBulkAll {H : Type} : List (DataW H) → Nat
  | [] => 0
  | d :: r => uptoBulk d + uptoBulkAll r
def uptoBulkEntries {H : Type} : List (Lit × DataW H) → Nat
  | [] => 0
  | x :: r => uptoBulkEntry x + uptoBulkEntries r
def uptoBulkEntry {H : Type} : Lit × DataW H → Nat
  | (.string bytes, d) => bytes.length + uptoBulk d + 1
  | (_, d) => uptoBulk d + 1
 end
def uptoSmall : (H : Type) → List (DataW H) → Bool := fun _ ds => decide (uptoBulkAll ds ≤ 1048576)
def OpenSpec.upto (s : _root_.Go.ChangeSpec) : _root_.Go.OpenSpec := { _root_.Go.OpenSpec.ofChange s with cond := some uptoSmall }

/-- 'patchbaylaw05.TableTells', WHERE WHAT IT READS IS OF BULK AT MOST 1048576: true; the input reads as it did. -/
def tableTellsUptoRow : OpenClaim := { program := "ytljpjeclnceddaa", sum := "9a3c8f5e40deafda988bedc8d26f40bb2961933877d00edae5b2e8fbff119c1c", func := "patchbay/patchbaylaw05.TableTells", spec := "tableTells", unfollowed := true, recurses := true, apart := false, narrowed := true }
def TableTellsUptoSaid : Prop := tableTellsUptoRow.holds Try.pinned (OpenSpec.upto tableTellsSpec)

/-- 'patchbaylaw05.TableMakes', WHERE WHAT IT READS IS OF BULK AT MOST 1048576: true; the input reads as it did. -/
def tableMakesUptoRow : OpenClaim := { program := "ytljpjeclnceddaa", sum := "9a3c8f5e40deafda988bedc8d26f40bb2961933877d00edae5b2e8fbff119c1c", func := "patchbay/patchbaylaw05.TableMakes", spec := "tableMakes", unfollowed := true, recurses := true, apart := false, narrowed := true }
def TableMakesUptoSaid : Prop := tableMakesUptoRow.holds Try.pinned (OpenSpec.upto tableMakesSpec)

/-- 'patchbaylaw05.TableBack', WHERE WHAT IT READS IS OF BULK AT MOST 1048576: true; the input reads as it did. -/
def tableBackUptoRow : OpenClaim := { program := "ytljpjeclnceddaa", sum := "9a3c8f5e40deafda988bedc8d26f40bb2961933877d00edae5b2e8fbff119c1c", func := "patchbay/patchbaylaw05.TableBack", spec := "tableBack", unfollowed := true, recurses := true, apart := false, narrowed := true }
def TableBackUptoSaid : Prop := tableBackUptoRow.holds Try.pinned (OpenSpec.upto tableBackSpec)

/-- 'patchbaylaw05.TableJoins', WHERE WHAT IT READS IS OF BULK AT MOST 1048576: true; the input reads as it did. -/
def tableJoinsUptoRow : OpenClaim := { program := "ytljpjeclnceddaa", sum := "9a3c8f5e40deafda988bedc8d26f40bb2961933877d00edae5b2e8fbff119c1c", func := "patchbay/patchbaylaw05.TableJoins", spec := "tableJoins", unfollowed := true, recurses := true, apart := false, narrowed := true }
def TableJoinsUptoSaid : Prop := tableJoinsUptoRow.holds Try.pinned (OpenSpec.upto tableJoinsSpec)

/-- 'patchbaylaw05.TableMaps', WHERE WHAT IT READS IS OF BULK AT MOST 1048576: true; the input reads as it did. -/
def tableMapsUptoRow : OpenClaim := { program := "ytljpjeclnceddaa", sum := "9a3c8f5e40deafda988bedc8d26f40bb2961933877d00edae5b2e8fbff119c1c", func := "patchbay/patchbaylaw05.TableMaps", spec := "tableMaps", unfollowed := true, recurses := true, apart := false, narrowed := true }
def TableMapsUptoSaid : Prop := tableMapsUptoRow.holds Try.pinned (OpenSpec.upto tableMapsSpec)

end Rows
end Go.Proofs.Ytljpjeclnceddaa
