/-
  No cell of these rows narrows 'for every input' (looked for: loops, veiled, ifaces, maps, wideKeys, modest, calm, conditions, laid).
  DERIVED. THE GIVEN ROWS OF THIS SEAT. 4 by the template 'for every input the law returns true; each argument reads behind the call as it read before'; 0 by the template 'total and deterministic' (their statements: YtajcfppemkdomaaTotals.lean).
  GIVEN WITH THE SEED: the statements are not yours to turn. If you find one false, say at which input.
  Laid BY PROGRAM, IN A SANDBOX (cutbox-rows.mjs): the forced cells as the released guide's own fill.sh prints them over the translation 977436a6a8a8d2aa… (all of the seat's roots in one cut). By AI agents, Wed Nov 11 2026. No macro, syntax, notation, axiom, sorry.
-/
import Derived.Test.YtajcfppemkdomaaChecked
import GoSem.Claim
import GoSem.ClaimJoined
import GoSem.ClaimMapViews
import Derived.JoinedTies
import Derived.KernelRfl
namespace Go.Proofs.Ytajcfppemkdomaa
/- THE CELL 'sum', in the pinned program and in every row, IS THE sha256 OF THE DUMP (.gsa) THAT YtajcfppemkdomaaProg.lean LOADS. Nothing in Lean hashes anything: it is a label: what it is worth is what the hold of that sum in a sandbox is worth. -/
noncomputable def Try.pinned : Pinned := { name := "ytajcfppemkdomaa", sum := "977436a6a8a8d2aae0474c050270325959cb4437ad0fa2c50ee572e2d40587b3", checked := Try.checked }
namespace Rows
def none {H : Type} : Left H := { results := [], args := [] }

/-- 'patchbaylaw21.SolveRight': WHATEVER THE INPUT: true; the input reads as it did. -/
def solveRightSpec : ChangeSpec := { name := "solveRight", fn := fun _ => fun
  | [d1, d2, d3] => { results := [.lit (.bool true)], args := [d1, d2, d3] }
  | _ => none }
def solveRightRow : OpenClaim := { program := "ytajcfppemkdomaa", sum := "977436a6a8a8d2aae0474c050270325959cb4437ad0fa2c50ee572e2d40587b3", func := "patchbay/patchbaylaw21.SolveRight", spec := "solveRight", unfollowed := true, recurses := true, apart := false }
def SolveRightSaid : Prop := solveRightRow.holds Try.pinned (OpenSpec.ofChange solveRightSpec)

/-- ITS FALSE NEIGHBOUR: 'it returns false'. Refute it at one input. -/
def solveRightWrong : ChangeSpec := { name := "solveRight", fn := fun _ => fun
  | [d1, d2, d3] => { results := [.lit (.bool false)], args := [d1, d2, d3] }
  | _ => none }
def SolveRightWrongFalsely : Prop := solveRightRow.holds Try.pinned (OpenSpec.ofChange solveRightWrong)

/-- 'patchbaylaw21.SolveLuby': WHATEVER THE INPUT: true; the input reads as it did. -/
def solveLubySpec : ChangeSpec := { name := "solveLuby", fn := fun _ => fun
  | [d1, d2] => { results := [.lit (.bool true)], args := [d1, d2] }
  | _ => none }
def solveLubyRow : OpenClaim := { program := "ytajcfppemkdomaa", sum := "977436a6a8a8d2aae0474c050270325959cb4437ad0fa2c50ee572e2d40587b3", func := "patchbay/patchbaylaw21.SolveLuby", spec := "solveLuby", unfollowed := true, recurses := true, apart := false }
def SolveLubySaid : Prop := solveLubyRow.holds Try.pinned (OpenSpec.ofChange solveLubySpec)

/-- ITS FALSE NEIGHBOUR: 'it returns false'. Refute it at one input. -/
def solveLubyWrong : ChangeSpec := { name := "solveLuby", fn := fun _ => fun
  | [d1, d2] => { results := [.lit (.bool false)], args := [d1, d2] }
  | _ => none }
def SolveLubyWrongFalsely : Prop := solveLubyRow.holds Try.pinned (OpenSpec.ofChange solveLubyWrong)

/-- 'patchbaylaw21.SolveAlike': WHATEVER THE INPUT: true; the input reads as it did. -/
def solveAlikeSpec : ChangeSpec := { name := "solveAlike", fn := fun _ => fun
  | [d1, d2] => { results := [.lit (.bool true)], args := [d1, d2] }
  | _ => none }
def solveAlikeRow : OpenClaim := { program := "ytajcfppemkdomaa", sum := "977436a6a8a8d2aae0474c050270325959cb4437ad0fa2c50ee572e2d40587b3", func := "patchbay/patchbaylaw21.SolveAlike", spec := "solveAlike", unfollowed := true, recurses := true, apart := false }
def SolveAlikeSaid : Prop := solveAlikeRow.holds Try.pinned (OpenSpec.ofChange solveAlikeSpec)

/-- ITS FALSE NEIGHBOUR: 'it returns false'. Refute it at one input. -/
def solveAlikeWrong : ChangeSpec := { name := "solveAlike", fn := fun _ => fun
  | [d1, d2] => { results := [.lit (.bool false)], args := [d1, d2] }
  | _ => none }
def SolveAlikeWrongFalsely : Prop := solveAlikeRow.holds Try.pinned (OpenSpec.ofChange solveAlikeWrong)

/-- 'patchbaylaw21.SolveProves': WHATEVER THE INPUT: true; the input reads as it did. -/
def solveProvesSpec : ChangeSpec := { name := "solveProves", fn := fun _ => fun
  | [d1, d2, d3] => { results := [.lit (.bool true)], args := [d1, d2, d3] }
  | _ => none }
def solveProvesRow : OpenClaim := { program := "ytajcfppemkdomaa", sum := "977436a6a8a8d2aae0474c050270325959cb4437ad0fa2c50ee572e2d40587b3", func := "patchbay/patchbaylaw21.SolveProves", spec := "solveProves", unfollowed := true, recurses := true, apart := false }
def SolveProvesSaid : Prop := solveProvesRow.holds Try.pinned (OpenSpec.ofChange solveProvesSpec)

/-- ITS FALSE NEIGHBOUR: 'it returns false'. Refute it at one input. -/
def solveProvesWrong : ChangeSpec := { name := "solveProves", fn := fun _ => fun
  | [d1, d2, d3] => { results := [.lit (.bool false)], args := [d1, d2, d3] }
  | _ => none }
def SolveProvesWrongFalsely : Prop := solveProvesRow.holds Try.pinned (OpenSpec.ofChange solveProvesWrong)

/- THE SECOND FORM. 'bulk': how many values and letters a reading holds, each counted each time it is reached (what is shared counts as often as it is met; a slice's spare places count too). A statement '..UptoSaid' is the law's where the arguments, and the package variables that the reading takes, are together of bulk at most 1048576: NARROWER than '..Said'. Prove '..Said' where nothing that the law and all that it calls make is longer than what came in: it says more and counts as full. Else prove '..UptoSaid'. A law counts once. -/
mutual
def uptoBulk {H : Type} : DataW H → Nat
  | .lit (.string bytes) => bytes.length + 1
  | .lit _ => 1
  | .nil => 1
  | .ptr d => uptoBulk d + 1
  | .slice elems spare => uptoBulkAll elems + uptoBulkAll spare + 1
  | .agg parts => uptoBulkAll parts + 1
  | .iface _ d => uptoBulk d + 1
  | .map entries => uptoBulkEntries entries + 1
  | .held _ => 1
def uptoBulkAll {H : Type} : List (DataW H) → Nat
  | [] => 0
  | d :: r => uptoBulk d + uptoBulkAll r
def uptoBulkEntries {H : Type} : List (Lit × DataW H) → Nat
  | [] => 0
  | x :: r => uptoBulkEntry x + uptoBulkEntries r
def uptoBulkEntry {H : Type} : Lit × DataW H → Nat
  | (.string bytes, d) => bytes.length + uptoBulk d + 1
  | (_, d) => uptoBulk d + 1
 end
def uptoSmall : (H : Type) → List (DataW H) → Bool := fun _ ds => decide (uptoBulkAll ds ≤ 1048576)
def OpenSpec.upto (s : _root_.Go.ChangeSpec) : _root_.Go.OpenSpec := { _root_.Go.OpenSpec.ofChange s with cond := some uptoSmall }

/-- 'patchbaylaw21.SolveRight', WHERE WHAT IT READS IS OF BULK AT MOST 1048576: true; the input reads as it did. -/
def solveRightUptoRow : OpenClaim := { program := "ytajcfppemkdomaa", sum := "977436a6a8a8d2aae0474c050270325959cb4437ad0fa2c50ee572e2d40587b3", func := "patchbay/patchbaylaw21.SolveRight", spec := "solveRight", unfollowed := true, recurses := true, apart := false, narrowed := true }
def SolveRightUptoSaid : Prop := solveRightUptoRow.holds Try.pinned (OpenSpec.upto solveRightSpec)

/-- 'patchbaylaw21.SolveLuby', WHERE WHAT IT READS IS OF BULK AT MOST 1048576: true; the input reads as it did. -/
def solveLubyUptoRow : OpenClaim := { program := "ytajcfppemkdomaa", sum := "977436a6a8a8d2aae0474c050270325959cb4437ad0fa2c50ee572e2d40587b3", func := "patchbay/patchbaylaw21.SolveLuby", spec := "solveLuby", unfollowed := true, recurses := true, apart := false, narrowed := true }
def SolveLubyUptoSaid : Prop := solveLubyUptoRow.holds Try.pinned (OpenSpec.upto solveLubySpec)

/-- 'patchbaylaw21.SolveAlike', WHERE WHAT IT READS IS OF BULK AT MOST 1048576: true; the input reads as it did. -/
def solveAlikeUptoRow : OpenClaim := { program := "ytajcfppemkdomaa", sum := "977436a6a8a8d2aae0474c050270325959cb4437ad0fa2c50ee572e2d40587b3", func := "patchbay/patchbaylaw21.SolveAlike", spec := "solveAlike", unfollowed := true, recurses := true, apart := false, narrowed := true }
def SolveAlikeUptoSaid : Prop := solveAlikeUptoRow.holds Try.pinned (OpenSpec.upto solveAlikeSpec)

/-- 'patchbaylaw21.SolveProves', WHERE WHAT IT READS IS OF BULK AT MOST 1048576: true; the input reads as it did. -/
def solveProvesUptoRow : OpenClaim := { program := "ytajcfppemkdomaa", sum := "977436a6a8a8d2aae0474c050270325959cb4437ad0fa2c50ee572e2d40587b3", func := "patchbay/patchbaylaw21.SolveProves", spec := "solveProves", unfollowed := true, recurses := true, apart := false, narrowed := true }
def SolveProvesUptoSaid : Prop := solveProvesUptoRow.holds Try.pinned (OpenSpec.upto solveProvesSpec)

end Rows
end Go.Proofs.Ytajcfppemkdomaa
