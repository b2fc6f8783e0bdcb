/-
  NARROWER THAN 'FOR EVERY INPUT', by the rows' own cells (each row's printed sentence says how): BenchParses: laid · BenchPrints: laid · BenchBack: laid · BenchExpands: laid · BenchRuns: laid.
  DERIVED. THE GIVEN ROWS OF THIS SEAT. 5 by the template 'for every input the law returns true; each argument reads behind the call as it read before'; 0 by the template 'total and deterministic' (their statements: YthaijohbpdabfaaGreatDoorTotals.lean).
  GIVEN WITH THE SEED: the statements are not yours to turn. If you find one false, say at which input.
  Laid BY PROGRAM, IN A SANDBOX (cutbox-rows.mjs): the forced cells as the released guide's own fill.sh prints them over the translation 0810a1c3437f6eab… (all of the seat's roots in one cut). By AI agents, Wed Nov 11 2026. No macro, syntax, notation, axiom, sorry.
-/
import Derived.Test.YthaijohbpdabfaaGreatDoorChecked
import GoSem.PinnedTables
import GoSem.Claim
import GoSem.ClaimJoined
import GoSem.ClaimMapViews
import Derived.JoinedTies
import Derived.KernelRfl
namespace Go.Proofs.YthaijohbpdabfaaGreatDoor
/- THE CELL 'sum', in the pinned program and in every row, IS THE sha256 OF THE DUMP (.gsa) THAT YthaijohbpdabfaaGreatDoorProg.lean LOADS. Nothing in Lean hashes anything: it is a label: what it is worth is what the hold of that sum in a sandbox is worth. -/
noncomputable def Tryz.pinned : Pinned := { name := "ythaijohbpdabfaagreatdoor", sum := "0810a1c3437f6eabbf38195017a4af151da9b888cb3bd2fc347a7c984206b6a5", checked := Tryz.checked }
namespace Rows
def none {H : Type} : Left H := { results := [], args := [] }

/- WHAT THE LISTED PACKAGE-LEVEL VARIABLES READ AS WHEN THE CALL BEGINS. Each datum BY PROGRAM (the guide's laid-datum.mjs) off the statement by which the dump's own 'gosem.cut.vars' lays the variable. In a bare row this is a premise. The card (YthaijohbpdabfaaGreatDoorCards.lean) ties it to the program's text. -/
def laid_math_bits_deBruijn32tab {H : Type} : DataW H := .agg [.lit (.int .u8 0), .lit (.int .u8 1), .lit (.int .u8 28), .lit (.int .u8 2), .lit (.int .u8 29), .lit (.int .u8 14), .lit (.int .u8 24), .lit (.int .u8 3), .lit (.int .u8 30), .lit (.int .u8 22), .lit (.int .u8 20), .lit (.int .u8 15), .lit (.int .u8 25), .lit (.int .u8 17), .lit (.int .u8 4), .lit (.int .u8 8), .lit (.int .u8 31), .lit (.int .u8 27), .lit (.int .u8 13), .lit (.int .u8 23), .lit (.int .u8 21), .lit (.int .u8 19), .lit (.int .u8 16), .lit (.int .u8 7), .lit (.int .u8 26), .lit (.int .u8 12), .lit (.int .u8 18), .lit (.int .u8 6), .lit (.int .u8 11), .lit (.int .u8 5), .lit (.int .u8 10), .lit (.int .u8 9)]
def laid_math_bits_deBruijn64tab {H : Type} : DataW H := .agg [.lit (.int .u8 0), .lit (.int .u8 1), .lit (.int .u8 56), .lit (.int .u8 2), .lit (.int .u8 57), .lit (.int .u8 49), .lit (.int .u8 28), .lit (.int .u8 3), .lit (.int .u8 61), .lit (.int .u8 58), .lit (.int .u8 42), .lit (.int .u8 50), .lit (.int .u8 38), .lit (.int .u8 29), .lit (.int .u8 17), .lit (.int .u8 4), .lit (.int .u8 62), .lit (.int .u8 47), .lit (.int .u8 59), .lit (.int .u8 36), .lit (.int .u8 45), .lit (.int .u8 43), .lit (.int .u8 51), .lit (.int .u8 22), .lit (.int .u8 53), .lit (.int .u8 39), .lit (.int .u8 33), .lit (.int .u8 30), .lit (.int .u8 24), .lit (.int .u8 18), .lit (.int .u8 12), .lit (.int .u8 5), .lit (.int .u8 63), .lit (.int .u8 55), .lit (.int .u8 48), .lit (.int .u8 27), .lit (.int .u8 60), .lit (.int .u8 41), .lit (.int .u8 37), .lit (.int .u8 16), .lit (.int .u8 46), .lit (.int .u8 35), .lit (.int .u8 44), .lit (.int .u8 21), .lit (.int .u8 52), .lit (.int .u8 32), .lit (.int .u8 23), .lit (.int .u8 11), .lit (.int .u8 54), .lit (.int .u8 26), .lit (.int .u8 40), .lit (.int .u8 15), .lit (.int .u8 34), .lit (.int .u8 20), .lit (.int .u8 31), .lit (.int .u8 10), .lit (.int .u8 25), .lit (.int .u8 14), .lit (.int .u8 19), .lit (.int .u8 9), .lit (.int .u8 13), .lit (.int .u8 8), .lit (.int .u8 7), .lit (.int .u8 6)]
def laid_internal_strconv_uint64pow10 {H : Type} : DataW H := .agg [.lit (.int .u64 1), .lit (.int .u64 10), .lit (.int .u64 100), .lit (.int .u64 1000), .lit (.int .u64 10000), .lit (.int .u64 100000), .lit (.int .u64 1000000), .lit (.int .u64 10000000), .lit (.int .u64 100000000), .lit (.int .u64 1000000000), .lit (.int .u64 10000000000), .lit (.int .u64 100000000000), .lit (.int .u64 1000000000000), .lit (.int .u64 10000000000000), .lit (.int .u64 100000000000000), .lit (.int .u64 1000000000000000), .lit (.int .u64 10000000000000000), .lit (.int .u64 100000000000000000), .lit (.int .u64 1000000000000000000), .lit (.int .u64 10000000000000000000)]
def laid_unicode_utf8_acceptRanges {H : Type} : DataW H := .agg [.agg [.lit (.int .u8 128), .lit (.int .u8 191)], .agg [.lit (.int .u8 160), .lit (.int .u8 191)], .agg [.lit (.int .u8 128), .lit (.int .u8 159)], .agg [.lit (.int .u8 144), .lit (.int .u8 191)], .agg [.lit (.int .u8 128), .lit (.int .u8 143)], .agg [.lit (.int .u8 0), .lit (.int .u8 0)], .agg [.lit (.int .u8 0), .lit (.int .u8 0)], .agg [.lit (.int .u8 0), .lit (.int .u8 0)], .agg [.lit (.int .u8 0), .lit (.int .u8 0)], .agg [.lit (.int .u8 0), .lit (.int .u8 0)], .agg [.lit (.int .u8 0), .lit (.int .u8 0)], .agg [.lit (.int .u8 0), .lit (.int .u8 0)], .agg [.lit (.int .u8 0), .lit (.int .u8 0)], .agg [.lit (.int .u8 0), .lit (.int .u8 0)], .agg [.lit (.int .u8 0), .lit (.int .u8 0)], .agg [.lit (.int .u8 0), .lit (.int .u8 0)]]
def laid_patchbay_spot_start {H : Type} : DataW H := .agg [.lit (.int .i64 1), .lit (.int .i64 1)]
def laid_patchbay_ident_kept {H : Type} : DataW H := .map [(.string [97, 110, 100], .lit (.bool true)), (.string [97, 115, 115, 105, 103, 110], .lit (.bool true)), (.string [98, 117, 102], .lit (.bool true)), (.string [100, 102, 102, 48], .lit (.bool true)), (.string [100, 102, 102, 49], .lit (.bool true)), (.string [100, 102, 102, 120], .lit (.bool true)), (.string [101, 110, 100, 109, 111, 100, 117, 108, 101], .lit (.bool true)), (.string [105, 110, 112, 117, 116], .lit (.bool true)), (.string [109, 111, 100, 117, 108, 101], .lit (.bool true)), (.string [110, 97, 110, 100], .lit (.bool true)), (.string [110, 111, 114], .lit (.bool true)), (.string [110, 111, 116], .lit (.bool true)), (.string [111, 114], .lit (.bool true)), (.string [111, 117, 116, 112, 117, 116], .lit (.bool true)), (.string [119, 105, 114, 101], .lit (.bool true)), (.string [120, 110, 111, 114], .lit (.bool true)), (.string [120, 111, 114], .lit (.bool true))]
def laid_patchbay_net_ins {H : Type} : DataW H := .map [(.int .i64 0, .agg [.lit (.int .i64 0), .lit (.int .i64 0)]), (.int .i64 1, .agg [.lit (.int .i64 0), .lit (.int .i64 0)]), (.int .i64 2, .agg [.lit (.int .i64 1), .lit (.int .i64 1)]), (.int .i64 3, .agg [.lit (.int .i64 1), .lit (.int .i64 1)]), (.int .i64 4, .agg [.lit (.int .i64 2), .lit (.int .i64 8)]), (.int .i64 5, .agg [.lit (.int .i64 2), .lit (.int .i64 8)]), (.int .i64 6, .agg [.lit (.int .i64 2), .lit (.int .i64 8)]), (.int .i64 7, .agg [.lit (.int .i64 2), .lit (.int .i64 8)]), (.int .i64 8, .agg [.lit (.int .i64 2), .lit (.int .i64 8)]), (.int .i64 9, .agg [.lit (.int .i64 2), .lit (.int .i64 8)]), (.int .i64 10, .agg [.lit (.int .i64 0), .lit (.int .i64 8)])]
def laid_patchbay_bench_words {H : Type} : DataW H := .agg [.lit (.string [71, 78, 68]), .lit (.string [86, 68, 68]), .lit (.string [66, 85, 70, 70]), .lit (.string [78, 79, 84]), .lit (.string [65, 78, 68]), .lit (.string [78, 65, 78, 68]), .lit (.string [79, 82]), .lit (.string [78, 79, 82]), .lit (.string [88, 79, 82]), .lit (.string [88, 78, 79, 82])]
def laid_patchbay_bench_latches {H : Type} : DataW H := .agg [.lit (.string [68, 70, 70]), .lit (.string [68, 70, 70, 49]), .lit (.string [68, 70, 70, 88])]
def laid_patchbay_bench_more {H : Type} : DataW H := .map [(.string [66, 85, 70], .lit (.int .i64 2))]
def laid_patchbay_bench_other {H : Type} : DataW H := .map [(.int .i64 0, .lit (.int .i64 1)), (.int .i64 1, .lit (.int .i64 0)), (.int .i64 2, .lit (.int .i64 3)), (.int .i64 3, .lit (.int .i64 2)), (.int .i64 4, .lit (.int .i64 5)), (.int .i64 6, .lit (.int .i64 7))]
/-- One of Go's own tables, pinned by name: the form's constant. -/
def laid_unicode_utf8_first : DataW Unit := Go.Pinned.utf8First

/-- 'patchbaylaw16.BenchParses': WHATEVER THE INPUT: true; the input reads as it did. -/
def benchParsesSpec : ChangeSpec := { name := "benchParses", fn := fun _ => fun
  | [d] => { results := [.lit (.bool true)], args := [d] }
  | _ => none }
def benchParsesRow : OpenClaim := { program := "ythaijohbpdabfaagreatdoor", sum := "0810a1c3437f6eabbf38195017a4af151da9b888cb3bd2fc347a7c984206b6a5", func := "patchbay/patchbaylaw16.BenchParses", spec := "benchParses", inPlace := ["internal/bytealg.CountString", "internal/bytealg.IndexByteString", "internal/bytealg.IndexString", "internal/abi.NoEscape", "internal/bytealg.MakeNoZero"], unfollowed := true, recurses := true, named := ["patchbay/spot.start", "internal/bytealg.MaxLen", "patchbay/ident.kept", "patchbay/bench.latches", "patchbay/bench.words", "patchbay/bench.more", "patchbay/net.ins", "unicode/utf8.first", "unicode/utf8.acceptRanges", "patchbay/bench.other", "internal/strconv.uint64pow10", "math/bits.deBruijn32tab", "math/bits.deBruijn64tab"], apart := false, laid := [("math/bits.deBruijn32tab", laid_math_bits_deBruijn32tab), ("math/bits.deBruijn64tab", laid_math_bits_deBruijn64tab), ("internal/strconv.uint64pow10", laid_internal_strconv_uint64pow10), ("unicode/utf8.acceptRanges", laid_unicode_utf8_acceptRanges), ("patchbay/spot.start", laid_patchbay_spot_start), ("patchbay/ident.kept", laid_patchbay_ident_kept), ("patchbay/net.ins", laid_patchbay_net_ins), ("patchbay/bench.words", laid_patchbay_bench_words), ("patchbay/bench.latches", laid_patchbay_bench_latches), ("patchbay/bench.more", laid_patchbay_bench_more), ("patchbay/bench.other", laid_patchbay_bench_other), ("unicode/utf8.first", laid_unicode_utf8_first)] }
def BenchParsesSaid : Prop := benchParsesRow.holds Tryz.pinned (OpenSpec.ofChange benchParsesSpec)

/-- ITS FALSE NEIGHBOUR: 'it returns false'. Refute it at one input. -/
def benchParsesWrong : ChangeSpec := { name := "benchParses", fn := fun _ => fun
  | [d] => { results := [.lit (.bool false)], args := [d] }
  | _ => none }
def BenchParsesWrongFalsely : Prop := benchParsesRow.holds Tryz.pinned (OpenSpec.ofChange benchParsesWrong)

/-- 'patchbaylaw16.BenchPrints': WHATEVER THE INPUT: true; the input reads as it did. -/
def benchPrintsSpec : ChangeSpec := { name := "benchPrints", fn := fun _ => fun
  | [d] => { results := [.lit (.bool true)], args := [d] }
  | _ => none }
def benchPrintsRow : OpenClaim := { program := "ythaijohbpdabfaagreatdoor", sum := "0810a1c3437f6eabbf38195017a4af151da9b888cb3bd2fc347a7c984206b6a5", func := "patchbay/patchbaylaw16.BenchPrints", spec := "benchPrints", inPlace := ["internal/bytealg.CountString", "internal/bytealg.IndexByteString", "internal/bytealg.IndexString", "internal/abi.NoEscape", "internal/bytealg.MakeNoZero"], unfollowed := true, recurses := true, named := ["patchbay/spot.start", "internal/bytealg.MaxLen", "patchbay/ident.kept", "patchbay/bench.latches", "patchbay/bench.words", "patchbay/bench.more", "patchbay/net.ins", "unicode/utf8.first", "unicode/utf8.acceptRanges", "patchbay/bench.other", "internal/strconv.uint64pow10", "math/bits.deBruijn32tab", "math/bits.deBruijn64tab"], apart := false, laid := [("math/bits.deBruijn32tab", laid_math_bits_deBruijn32tab), ("math/bits.deBruijn64tab", laid_math_bits_deBruijn64tab), ("internal/strconv.uint64pow10", laid_internal_strconv_uint64pow10), ("unicode/utf8.acceptRanges", laid_unicode_utf8_acceptRanges), ("patchbay/spot.start", laid_patchbay_spot_start), ("patchbay/ident.kept", laid_patchbay_ident_kept), ("patchbay/net.ins", laid_patchbay_net_ins), ("patchbay/bench.words", laid_patchbay_bench_words), ("patchbay/bench.latches", laid_patchbay_bench_latches), ("patchbay/bench.more", laid_patchbay_bench_more), ("patchbay/bench.other", laid_patchbay_bench_other), ("unicode/utf8.first", laid_unicode_utf8_first)] }
def BenchPrintsSaid : Prop := benchPrintsRow.holds Tryz.pinned (OpenSpec.ofChange benchPrintsSpec)

/-- ITS FALSE NEIGHBOUR: 'it returns false'. Refute it at one input. -/
def benchPrintsWrong : ChangeSpec := { name := "benchPrints", fn := fun _ => fun
  | [d] => { results := [.lit (.bool false)], args := [d] }
  | _ => none }
def BenchPrintsWrongFalsely : Prop := benchPrintsRow.holds Tryz.pinned (OpenSpec.ofChange benchPrintsWrong)

/-- 'patchbaylaw16.BenchBack': WHATEVER THE INPUT: true; the input reads as it did. -/
def benchBackSpec : ChangeSpec := { name := "benchBack", fn := fun _ => fun
  | [d] => { results := [.lit (.bool true)], args := [d] }
  | _ => none }
def benchBackRow : OpenClaim := { program := "ythaijohbpdabfaagreatdoor", sum := "0810a1c3437f6eabbf38195017a4af151da9b888cb3bd2fc347a7c984206b6a5", func := "patchbay/patchbaylaw16.BenchBack", spec := "benchBack", inPlace := ["internal/bytealg.CountString", "internal/bytealg.IndexByteString", "internal/bytealg.IndexString", "internal/abi.NoEscape", "internal/bytealg.MakeNoZero"], unfollowed := true, recurses := true, named := ["patchbay/spot.start", "internal/bytealg.MaxLen", "patchbay/ident.kept", "patchbay/bench.latches", "patchbay/bench.words", "patchbay/bench.more", "patchbay/net.ins", "unicode/utf8.first", "unicode/utf8.acceptRanges", "patchbay/bench.other", "internal/strconv.uint64pow10", "math/bits.deBruijn32tab", "math/bits.deBruijn64tab"], apart := false, laid := [("math/bits.deBruijn32tab", laid_math_bits_deBruijn32tab), ("math/bits.deBruijn64tab", laid_math_bits_deBruijn64tab), ("internal/strconv.uint64pow10", laid_internal_strconv_uint64pow10), ("unicode/utf8.acceptRanges", laid_unicode_utf8_acceptRanges), ("patchbay/spot.start", laid_patchbay_spot_start), ("patchbay/ident.kept", laid_patchbay_ident_kept), ("patchbay/net.ins", laid_patchbay_net_ins), ("patchbay/bench.words", laid_patchbay_bench_words), ("patchbay/bench.latches", laid_patchbay_bench_latches), ("patchbay/bench.more", laid_patchbay_bench_more), ("patchbay/bench.other", laid_patchbay_bench_other), ("unicode/utf8.first", laid_unicode_utf8_first)] }
def BenchBackSaid : Prop := benchBackRow.holds Tryz.pinned (OpenSpec.ofChange benchBackSpec)

/-- ITS FALSE NEIGHBOUR: 'it returns false'. Refute it at one input. -/
def benchBackWrong : ChangeSpec := { name := "benchBack", fn := fun _ => fun
  | [d] => { results := [.lit (.bool false)], args := [d] }
  | _ => none }
def BenchBackWrongFalsely : Prop := benchBackRow.holds Tryz.pinned (OpenSpec.ofChange benchBackWrong)

/-- 'patchbaylaw16.BenchExpands': WHATEVER THE INPUT: true; the input reads as it did. -/
def benchExpandsSpec : ChangeSpec := { name := "benchExpands", fn := fun _ => fun
  | [d1, d2, d3] => { results := [.lit (.bool true)], args := [d1, d2, d3] }
  | _ => none }
def benchExpandsRow : OpenClaim := { program := "ythaijohbpdabfaagreatdoor", sum := "0810a1c3437f6eabbf38195017a4af151da9b888cb3bd2fc347a7c984206b6a5", func := "patchbay/patchbaylaw16.BenchExpands", spec := "benchExpands", inPlace := ["internal/bytealg.CountString", "internal/bytealg.IndexByteString", "internal/bytealg.IndexString", "internal/abi.NoEscape", "internal/bytealg.MakeNoZero"], unfollowed := true, recurses := true, named := ["patchbay/spot.start", "internal/bytealg.MaxLen", "patchbay/ident.kept", "patchbay/bench.latches", "patchbay/bench.words", "patchbay/bench.more", "patchbay/net.ins", "unicode/utf8.first", "unicode/utf8.acceptRanges", "patchbay/bench.other", "internal/strconv.uint64pow10", "math/bits.deBruijn32tab", "math/bits.deBruijn64tab"], apart := false, laid := [("math/bits.deBruijn32tab", laid_math_bits_deBruijn32tab), ("math/bits.deBruijn64tab", laid_math_bits_deBruijn64tab), ("internal/strconv.uint64pow10", laid_internal_strconv_uint64pow10), ("unicode/utf8.acceptRanges", laid_unicode_utf8_acceptRanges), ("patchbay/spot.start", laid_patchbay_spot_start), ("patchbay/ident.kept", laid_patchbay_ident_kept), ("patchbay/net.ins", laid_patchbay_net_ins), ("patchbay/bench.words", laid_patchbay_bench_words), ("patchbay/bench.latches", laid_patchbay_bench_latches), ("patchbay/bench.more", laid_patchbay_bench_more), ("patchbay/bench.other", laid_patchbay_bench_other), ("unicode/utf8.first", laid_unicode_utf8_first)] }
def BenchExpandsSaid : Prop := benchExpandsRow.holds Tryz.pinned (OpenSpec.ofChange benchExpandsSpec)

/-- ITS FALSE NEIGHBOUR: 'it returns false'. Refute it at one input. -/
def benchExpandsWrong : ChangeSpec := { name := "benchExpands", fn := fun _ => fun
  | [d1, d2, d3] => { results := [.lit (.bool false)], args := [d1, d2, d3] }
  | _ => none }
def BenchExpandsWrongFalsely : Prop := benchExpandsRow.holds Tryz.pinned (OpenSpec.ofChange benchExpandsWrong)

/-- 'patchbaylaw16.BenchRuns': WHATEVER THE INPUT: true; the input reads as it did. -/
def benchRunsSpec : ChangeSpec := { name := "benchRuns", fn := fun _ => fun
  | [d1, d2, d3] => { results := [.lit (.bool true)], args := [d1, d2, d3] }
  | _ => none }
def benchRunsRow : OpenClaim := { program := "ythaijohbpdabfaagreatdoor", sum := "0810a1c3437f6eabbf38195017a4af151da9b888cb3bd2fc347a7c984206b6a5", func := "patchbay/patchbaylaw16.BenchRuns", spec := "benchRuns", inPlace := ["internal/bytealg.CountString", "internal/bytealg.IndexByteString", "internal/bytealg.IndexString", "internal/abi.NoEscape", "internal/bytealg.MakeNoZero"], unfollowed := true, recurses := true, named := ["patchbay/spot.start", "internal/bytealg.MaxLen", "patchbay/ident.kept", "patchbay/bench.latches", "patchbay/bench.words", "patchbay/bench.more", "patchbay/net.ins", "unicode/utf8.first", "unicode/utf8.acceptRanges", "patchbay/bench.other", "internal/strconv.uint64pow10", "math/bits.deBruijn32tab", "math/bits.deBruijn64tab"], apart := false, laid := [("math/bits.deBruijn32tab", laid_math_bits_deBruijn32tab), ("math/bits.deBruijn64tab", laid_math_bits_deBruijn64tab), ("internal/strconv.uint64pow10", laid_internal_strconv_uint64pow10), ("unicode/utf8.acceptRanges", laid_unicode_utf8_acceptRanges), ("patchbay/spot.start", laid_patchbay_spot_start), ("patchbay/ident.kept", laid_patchbay_ident_kept), ("patchbay/net.ins", laid_patchbay_net_ins), ("patchbay/bench.words", laid_patchbay_bench_words), ("patchbay/bench.latches", laid_patchbay_bench_latches), ("patchbay/bench.more", laid_patchbay_bench_more), ("patchbay/bench.other", laid_patchbay_bench_other), ("unicode/utf8.first", laid_unicode_utf8_first)] }
def BenchRunsSaid : Prop := benchRunsRow.holds Tryz.pinned (OpenSpec.ofChange benchRunsSpec)

/-- ITS FALSE NEIGHBOUR: 'it returns false'. Refute it at one input. -/
def benchRunsWrong : ChangeSpec := { name := "benchRuns", fn := fun _ => fun
  | [d1, d2, d3] => { results := [.lit (.bool false)], args := [d1, d2, d3] }
  | _ => none }
def BenchRunsWrongFalsely : Prop := benchRunsRow.holds Tryz.pinned (OpenSpec.ofChange benchRunsWrong)

/- THE SECOND FORM. 'bulk': how many values and letters a reading holds, each counted each time it is reached (what is shared counts as often as it is met; a slice's spare places count too). A statement '..UptoSaid' is the law's where the arguments, and the package variables that the reading takes, are together of bulk at most 1048576: NARROWER than '..Said'. Prove '..Said' where nothing that the law and all that it calls make is longer than what came in: it says more and counts as full. Else prove '..UptoSaid'. A law counts once. -/
mutual
def uptoBulk {H : Type} : DataW H → Nat
  | .lit (.string bytes) => bytes.length + 1
  | .lit _ => 1
  | .nil => 1
  | .ptr d => uptoBulk d + 1
  | .slice elems spare => uptoBulkAll elems + uptoBulkAll spare + 1
  | .agg parts => uptoBulkAll parts + 1
  | .iface _ d => uptoBulk d + 1
  | .map entries => uptoBulkEntries entries + 1
  | .held _ => 1
def uptoBulkAll {H : Type} : List (DataW H) → Nat
  | [] => 0
  | d :: r => uptoBulk d + uptoBulkAll r
def uptoBulkEntries {H : Type} : List (Lit × DataW H) → Nat
  | [] => 0
  | x :: r => uptoBulkEntry x + uptoBulkEntries r
def uptoBulkEntry {H : Type} : Lit × DataW H → Nat
  | (.string bytes, d) => bytes.length + uptoBulk d + 1
  | (_, d) => uptoBulk d + 1
 end
def uptoSmall : (H : Type) → List (DataW H) → Bool := fun _ ds => decide (uptoBulkAll ds ≤ 1048576)
def OpenSpec.upto (s : _root_.Go.ChangeSpec) : _root_.Go.OpenSpec := { _root_.Go.OpenSpec.ofChange s with cond := some uptoSmall }

/-- 'patchbaylaw16.BenchParses', WHERE WHAT IT READS IS OF BULK AT MOST 1048576: true; the input reads as it did. -/
def benchParsesUptoRow : OpenClaim := { program := "ythaijohbpdabfaagreatdoor", sum := "0810a1c3437f6eabbf38195017a4af151da9b888cb3bd2fc347a7c984206b6a5", func := "patchbay/patchbaylaw16.BenchParses", spec := "benchParses", inPlace := ["internal/bytealg.CountString", "internal/bytealg.IndexByteString", "internal/bytealg.IndexString", "internal/abi.NoEscape", "internal/bytealg.MakeNoZero"], unfollowed := true, recurses := true, named := ["patchbay/spot.start", "internal/bytealg.MaxLen", "patchbay/ident.kept", "patchbay/bench.latches", "patchbay/bench.words", "patchbay/bench.more", "patchbay/net.ins", "unicode/utf8.first", "unicode/utf8.acceptRanges", "patchbay/bench.other", "internal/strconv.uint64pow10", "math/bits.deBruijn32tab", "math/bits.deBruijn64tab"], apart := false, laid := [("math/bits.deBruijn32tab", laid_math_bits_deBruijn32tab), ("math/bits.deBruijn64tab", laid_math_bits_deBruijn64tab), ("internal/strconv.uint64pow10", laid_internal_strconv_uint64pow10), ("unicode/utf8.acceptRanges", laid_unicode_utf8_acceptRanges), ("patchbay/spot.start", laid_patchbay_spot_start), ("patchbay/ident.kept", laid_patchbay_ident_kept), ("patchbay/net.ins", laid_patchbay_net_ins), ("patchbay/bench.words", laid_patchbay_bench_words), ("patchbay/bench.latches", laid_patchbay_bench_latches), ("patchbay/bench.more", laid_patchbay_bench_more), ("patchbay/bench.other", laid_patchbay_bench_other), ("unicode/utf8.first", laid_unicode_utf8_first)], narrowed := true }
def BenchParsesUptoSaid : Prop := benchParsesUptoRow.holds Tryz.pinned (OpenSpec.upto benchParsesSpec)

/-- 'patchbaylaw16.BenchPrints', WHERE WHAT IT READS IS OF BULK AT MOST 1048576: true; the input reads as it did. -/
def benchPrintsUptoRow : OpenClaim := { program := "ythaijohbpdabfaagreatdoor", sum := "0810a1c3437f6eabbf38195017a4af151da9b888cb3bd2fc347a7c984206b6a5", func := "patchbay/patchbaylaw16.BenchPrints", spec := "benchPrints", inPlace := ["internal/bytealg.CountString", "internal/bytealg.IndexByteString", "internal/bytealg.IndexString", "internal/abi.NoEscape", "internal/bytealg.MakeNoZero"], unfollowed := true, recurses := true, named := ["patchbay/spot.start", "internal/bytealg.MaxLen", "patchbay/ident.kept", "patchbay/bench.latches", "patchbay/bench.words", "patchbay/bench.more", "patchbay/net.ins", "unicode/utf8.first", "unicode/utf8.acceptRanges", "patchbay/bench.other", "internal/strconv.uint64pow10", "math/bits.deBruijn32tab", "math/bits.deBruijn64tab"], apart := false, laid := [("math/bits.deBruijn32tab", laid_math_bits_deBruijn32tab), ("math/bits.deBruijn64tab", laid_math_bits_deBruijn64tab), ("internal/strconv.uint64pow10", laid_internal_strconv_uint64pow10), ("unicode/utf8.acceptRanges", laid_unicode_utf8_acceptRanges), ("patchbay/spot.start", laid_patchbay_spot_start), ("patchbay/ident.kept", laid_patchbay_ident_kept), ("patchbay/net.ins", laid_patchbay_net_ins), ("patchbay/bench.words", laid_patchbay_bench_words), ("patchbay/bench.latches", laid_patchbay_bench_latches), ("patchbay/bench.more", laid_patchbay_bench_more), ("patchbay/bench.other", laid_patchbay_bench_other), ("unicode/utf8.first", laid_unicode_utf8_first)], narrowed := true }
def BenchPrintsUptoSaid : Prop := benchPrintsUptoRow.holds Tryz.pinned (OpenSpec.upto benchPrintsSpec)

/-- 'patchbaylaw16.BenchBack', WHERE WHAT IT READS IS OF BULK AT MOST 1048576: true; the input reads as it did. -/
def benchBackUptoRow : OpenClaim := { program := "ythaijohbpdabfaagreatdoor", sum := "0810a1c3437f6eabbf38195017a4af151da9b888cb3bd2fc347a7c984206b6a5", func := "patchbay/patchbaylaw16.BenchBack", spec := "benchBack", inPlace := ["internal/bytealg.CountString", "internal/bytealg.IndexByteString", "internal/bytealg.IndexString", "internal/abi.NoEscape", "internal/bytealg.MakeNoZero"], unfollowed := true, recurses := true, named := ["patchbay/spot.start", "internal/bytealg.MaxLen", "patchbay/ident.kept", "patchbay/bench.latches", "patchbay/bench.words", "patchbay/bench.more", "patchbay/net.ins", "unicode/utf8.first", "unicode/utf8.acceptRanges", "patchbay/bench.other", "internal/strconv.uint64pow10", "math/bits.deBruijn32tab", "math/bits.deBruijn64tab"], apart := false, laid := [("math/bits.deBruijn32tab", laid_math_bits_deBruijn32tab), ("math/bits.deBruijn64tab", laid_math_bits_deBruijn64tab), ("internal/strconv.uint64pow10", laid_internal_strconv_uint64pow10), ("unicode/utf8.acceptRanges", laid_unicode_utf8_acceptRanges), ("patchbay/spot.start", laid_patchbay_spot_start), ("patchbay/ident.kept", laid_patchbay_ident_kept), ("patchbay/net.ins", laid_patchbay_net_ins), ("patchbay/bench.words", laid_patchbay_bench_words), ("patchbay/bench.latches", laid_patchbay_bench_latches), ("patchbay/bench.more", laid_patchbay_bench_more), ("patchbay/bench.other", laid_patchbay_bench_other), ("unicode/utf8.first", laid_unicode_utf8_first)], narrowed := true }
def BenchBackUptoSaid : Prop := benchBackUptoRow.holds Tryz.pinned (OpenSpec.upto benchBackSpec)

/-- 'patchbaylaw16.BenchExpands', WHERE WHAT IT READS IS OF BULK AT MOST 1048576: true; the input reads as it did. -/
def benchExpandsUptoRow : OpenClaim := { program := "ythaijohbpdabfaagreatdoor", sum := "0810a1c3437f6eabbf38195017a4af151da9b888cb3bd2fc347a7c984206b6a5", func := "patchbay/patchbaylaw16.BenchExpands", spec := "benchExpands", inPlace := ["internal/bytealg.CountString", "internal/bytealg.IndexByteString", "internal/bytealg.IndexString", "internal/abi.NoEscape", "internal/bytealg.MakeNoZero"], unfollowed := true, recurses := true, named := ["patchbay/spot.start", "internal/bytealg.MaxLen", "patchbay/ident.kept", "patchbay/bench.latches", "patchbay/bench.words", "patchbay/bench.more", "patchbay/net.ins", "unicode/utf8.first", "unicode/utf8.acceptRanges", "patchbay/bench.other", "internal/strconv.uint64pow10", "math/bits.deBruijn32tab", "math/bits.deBruijn64tab"], apart := false, laid := [("math/bits.deBruijn32tab", laid_math_bits_deBruijn32tab), ("math/bits.deBruijn64tab", laid_math_bits_deBruijn64tab), ("internal/strconv.uint64pow10", laid_internal_strconv_uint64pow10), ("unicode/utf8.acceptRanges", laid_unicode_utf8_acceptRanges), ("patchbay/spot.start", laid_patchbay_spot_start), ("patchbay/ident.kept", laid_patchbay_ident_kept), ("patchbay/net.ins", laid_patchbay_net_ins), ("patchbay/bench.words", laid_patchbay_bench_words), ("patchbay/bench.latches", laid_patchbay_bench_latches), ("patchbay/bench.more", laid_patchbay_bench_more), ("patchbay/bench.other", laid_patchbay_bench_other), ("unicode/utf8.first", laid_unicode_utf8_first)], narrowed := true }
def BenchExpandsUptoSaid : Prop := benchExpandsUptoRow.holds Tryz.pinned (OpenSpec.upto benchExpandsSpec)

/-- 'patchbaylaw16.BenchRuns', WHERE WHAT IT READS IS OF BULK AT MOST 1048576: true; the input reads as it did. -/
def benchRunsUptoRow : OpenClaim := { program := "ythaijohbpdabfaagreatdoor", sum := "0810a1c3437f6eabbf38195017a4af151da9b888cb3bd2fc347a7c984206b6a5", func := "patchbay/patchbaylaw16.BenchRuns", spec := "benchRuns", inPlace := ["internal/bytealg.CountString", "internal/bytealg.IndexByteString", "internal/bytealg.IndexString", "internal/abi.NoEscape", "internal/bytealg.MakeNoZero"], unfollowed := true, recurses := true, named := ["patchbay/spot.start", "internal/bytealg.MaxLen", "patchbay/ident.kept", "patchbay/bench.latches", "patchbay/bench.words", "patchbay/bench.more", "patchbay/net.ins", "unicode/utf8.first", "unicode/utf8.acceptRanges", "patchbay/bench.other", "internal/strconv.uint64pow10", "math/bits.deBruijn32tab", "math/bits.deBruijn64tab"], apart := false, laid := [("math/bits.deBruijn32tab", laid_math_bits_deBruijn32tab), ("math/bits.deBruijn64tab", laid_math_bits_deBruijn64tab), ("internal/strconv.uint64pow10", laid_internal_strconv_uint64pow10), ("unicode/utf8.acceptRanges", laid_unicode_utf8_acceptRanges), ("patchbay/spot.start", laid_patchbay_spot_start), ("patchbay/ident.kept", laid_patchbay_ident_kept), ("patchbay/net.ins", laid_patchbay_net_ins), ("patchbay/bench.words", laid_patchbay_bench_words), ("patchbay/bench.latches", laid_patchbay_bench_latches), ("patchbay/bench.more", laid_patchbay_bench_more), ("patchbay/bench.other", laid_patchbay_bench_other), ("unicode/utf8.first", laid_unicode_utf8_first)], narrowed := true }
def BenchRunsUptoSaid : Prop := benchRunsUptoRow.holds Tryz.pinned (OpenSpec.upto benchRunsSpec)

end Rows
end Go.Proofs.YthaijohbpdabfaaGreatDoor
