/- Lemmas for the statement of this claim, part P0: they hold with no conditions but those that each one names. -/
import Derived.Test.YtboolnpmlmgpkaaGreatDoorProg
import Derived.Test.YtboolnpmlmgpkaaGreatDoorA8
import Derived.Lib.LaidTab
import Derived.Lib.ItoaNum
set_option linter.unusedVariables false
namespace Go.Proofs.YtboolnpmlmgpkaaGreatDoor
open Go Go.Proofs Go.Abs
noncomputable abbrev P := Go.Proofs.Tryz.prog
def gxs : Nat → Option (Array Value → Prop)
 | 0 => some fun cs => cs = #[.int .i64 1, .int .i64 1]
 | 1 => some fun cs => cs = #[.iface 307 (.agg #[.pointer (some ⟨8, 102, none⟩)])]
 | 2 => some fun cs => cs = (Lib.pow10Tab.map fun z => Value.int .u64 z).toArray
 | 4 => some fun cs => ∃ te pe, cs = #[.iface te pe]
 | 5 => some fun cs => ∃ te pe, cs = #[.iface te pe]
 | _ => none
def gls : Nat → Option V
 | 0 => some (.agg [.int .i64 1, .int .i64 1])
 | _ => none
noncomputable def TE : E := { P := P, gl := gls, gx := gxs }
theorem TEP : TE.P = P := rfl
theorem gl0 : glv TE 0 = .ip (.agg [.int .i64 1, .int .i64 1]) := rfl
theorem zsH : TE.tl = [] := rfl
theorem mixed : TE.P.follows .mixedOrders = true := rfl
set_option maxRecDepth 100000 in
theorem tis : (ti P 0 = some { kind := K.other, size := 1, bytes := 0, zero := V.any }) ∧
 (ti P 1 = some { kind := K.func, size := 1, bytes := 8, zero := V.nilf }) ∧
 (ti P 2 = some { kind := K.int IntKind.i64, size := 1, bytes := 8, zero := V.int IntKind.i64 0 }) ∧
 (ti P 3 = some { kind := K.int IntKind.i64, size := 1, bytes := 8, zero := V.int IntKind.i64 0 }) ∧
 (ti P 4 = some { kind := K.bool, size := 1, bytes := 1, zero := V.bool false }) ∧
 (ti P 5 = some { kind := K.int IntKind.u8, size := 1, bytes := 1, zero := V.int IntKind.u8 0 }) ∧
 (ti P 6 = some { kind := K.int IntKind.u8, size := 1, bytes := 1, zero := V.int IntKind.u8 0 }) ∧
 (ti P 7 = some { kind := K.struct [(0, 2), (1, 3), (2, 4), (3, 6)], size := 4, bytes := 24, zero := V.agg [V.int IntKind.i64 0, V.int IntKind.i64 0, V.bool false, V.int IntKind.u8 0] }) ∧
 (ti P 8 = some { kind := K.struct [(0, 2), (1, 3), (2, 4), (3, 6)], size := 4, bytes := 24, zero := V.agg [V.int IntKind.i64 0, V.int IntKind.i64 0, V.bool false, V.int IntKind.u8 0] }) ∧
 (ti P 9 = some { kind := K.str, size := 1, bytes := 16, zero := V.str [] }) ∧
 (ti P 10 = some { kind := K.str, size := 1, bytes := 16, zero := V.str [] }) ∧
 (ti P 11 = some { kind := K.str, size := 1, bytes := 16, zero := V.str [] }) ∧
 (ti P 12 = some { kind := K.int IntKind.u64, size := 1, bytes := 8, zero := V.int IntKind.u64 0 }) ∧
 (ti P 13 = some { kind := K.struct [(0, 9), (1, 12)], size := 2, bytes := 24, zero := V.agg [V.str [], V.int IntKind.u64 0] }) ∧
 (ti P 14 = some { kind := K.struct [(0, 9), (1, 12)], size := 2, bytes := 24, zero := V.agg [V.str [], V.int IntKind.u64 0] }) ∧
 (ti P 15 = some { kind := K.ptr 350, size := 1, bytes := 8, zero := V.nilp }) ∧
 (ti P 16 = some { kind := K.ptr 353, size := 1, bytes := 8, zero := V.nilp }) ∧
 (ti P 17 = some { kind := K.ptr 360, size := 1, bytes := 8, zero := V.nilp }) ∧
 (ti P 18 = some { kind := K.struct [(0, 17)], size := 1, bytes := 8, zero := V.agg [V.nilp] }) ∧
 (ti P 19 = some { kind := K.struct [(0, 17)], size := 1, bytes := 8, zero := V.agg [V.nilp] }) ∧
 (ti P 20 = some { kind := K.iface, size := 1, bytes := 16, zero := V.nili }) ∧
 (ti P 21 = some { kind := K.int IntKind.i32, size := 1, bytes := 4, zero := V.int IntKind.i32 0 }) ∧
 (ti P 22 = some { kind := K.slice 3, size := 1, bytes := 24, zero := V.nils }) ∧
 (ti P 23 = some { kind := K.slice 106, size := 1, bytes := 24, zero := V.nils }) ∧
 (ti P 24 = some { kind := K.struct [(0, 3), (1, 22), (2, 22), (3, 23), (4, 22)], size := 5, bytes := 104, zero := V.agg [V.int IntKind.i64 0, V.nils, V.nils, V.nils, V.nils] }) ∧
 (ti P 25 = some { kind := K.struct [(0, 3), (1, 22), (2, 22), (3, 23), (4, 22)], size := 5, bytes := 104, zero := V.agg [V.int IntKind.i64 0, V.nils, V.nils, V.nils, V.nils] }) ∧
 (ti P 26 = some { kind := K.slice 9, size := 1, bytes := 24, zero := V.nils }) ∧
 (ti P 27 = some { kind := K.struct [(0, 25), (5, 26), (6, 26), (7, 26)], size := 8, bytes := 176, zero := V.agg [V.int IntKind.i64 0, V.nils, V.nils, V.nils, V.nils, V.nils, V.nils, V.nils] }) ∧
 (ti P 28 = some { kind := K.struct [(0, 25), (5, 26), (6, 26), (7, 26)], size := 8, bytes := 176, zero := V.agg [V.int IntKind.i64 0, V.nils, V.nils, V.nils, V.nils, V.nils, V.nils, V.nils] }) ∧
 (ti P 29 = some { kind := K.func, size := 1, bytes := 8, zero := V.nilf }) ∧
 (ti P 30 = some { kind := K.func, size := 1, bytes := 8, zero := V.nilf }) ∧
 (ti P 31 = some { kind := K.int IntKind.i64, size := 1, bytes := 8, zero := V.int IntKind.i64 0 }) ∧
 (ti P 32 = some { kind := K.other, size := 1, bytes := 0, zero := V.any }) ∧
 (ti P 33 = some { kind := K.func, size := 1, bytes := 8, zero := V.nilf }) ∧
 (ti P 34 = some { kind := K.func, size := 1, bytes := 8, zero := V.nilf }) ∧
 (ti P 35 = some { kind := K.other, size := 1, bytes := 0, zero := V.any }) ∧
 (ti P 36 = some { kind := K.func, size := 1, bytes := 8, zero := V.nilf }) ∧
 (ti P 37 = some { kind := K.struct [(0, 31), (1, 3), (2, 3)], size := 3, bytes := 24, zero := V.agg [V.int IntKind.i64 0, V.int IntKind.i64 0, V.int IntKind.i64 0] }) ∧
 (ti P 38 = some { kind := K.struct [(0, 31), (1, 3), (2, 3)], size := 3, bytes := 24, zero := V.agg [V.int IntKind.i64 0, V.int IntKind.i64 0, V.int IntKind.i64 0] }) ∧
 (ti P 39 = some { kind := K.other, size := 1, bytes := 0, zero := V.any }) ∧
 (ti P 40 = some { kind := K.func, size := 1, bytes := 8, zero := V.nilf }) ∧
 (ti P 41 = some { kind := K.func, size := 1, bytes := 8, zero := V.nilf }) ∧
 (ti P 42 = some { kind := K.func, size := 1, bytes := 8, zero := V.nilf }) ∧
 (ti P 43 = some { kind := K.func, size := 1, bytes := 8, zero := V.nilf }) ∧
 (ti P 44 = some { kind := K.func, size := 1, bytes := 8, zero := V.nilf }) ∧
 (ti P 45 = some { kind := K.func, size := 1, bytes := 8, zero := V.nilf }) ∧
 (ti P 46 = some { kind := K.other, size := 1, bytes := 0, zero := V.any }) ∧
 (ti P 47 = some { kind := K.func, size := 1, bytes := 8, zero := V.nilf }) ∧
 (ti P 48 = some { kind := K.other, size := 1, bytes := 0, zero := V.any }) ∧
 (ti P 49 = some { kind := K.func, size := 1, bytes := 8, zero := V.nilf }) ∧
 (ti P 50 = some { kind := K.func, size := 1, bytes := 8, zero := V.nilf }) ∧
 (ti P 51 = some { kind := K.func, size := 1, bytes := 8, zero := V.nilf }) ∧
 (ti P 52 = some { kind := K.slice 22, size := 1, bytes := 24, zero := V.nils }) ∧
 (ti P 53 = some { kind := K.struct [(0, 3), (1, 22), (2, 52)], size := 3, bytes := 56, zero := V.agg [V.int IntKind.i64 0, V.nils, V.nils] }) ∧
 (ti P 54 = some { kind := K.struct [(0, 3), (1, 22), (2, 52)], size := 3, bytes := 56, zero := V.agg [V.int IntKind.i64 0, V.nils, V.nils] }) ∧
 (ti P 55 = some { kind := K.func, size := 1, bytes := 8, zero := V.nilf }) ∧
 (ti P 56 = some { kind := K.func, size := 1, bytes := 8, zero := V.nilf }) ∧
 (ti P 57 = some { kind := K.struct [(0, 3), (1, 22), (2, 52)], size := 3, bytes := 56, zero := V.agg [V.int IntKind.i64 0, V.nils, V.nils] }) ∧
 (ti P 58 = some { kind := K.func, size := 1, bytes := 8, zero := V.nilf }) ∧
 (ti P 59 = some { kind := K.slice 4, size := 1, bytes := 24, zero := V.nils }) ∧
 (ti P 60 = some { kind := K.slice 59, size := 1, bytes := 24, zero := V.nils }) ∧
 (ti P 61 = some { kind := K.other, size := 1, bytes := 0, zero := V.any }) ∧
 (ti P 62 = some { kind := K.func, size := 1, bytes := 8, zero := V.nilf }) ∧
 (ti P 63 = some { kind := K.func, size := 1, bytes := 8, zero := V.nilf }) ∧
 (ti P 64 = some { kind := K.other, size := 1, bytes := 0, zero := V.any }) ∧
 (ti P 65 = some { kind := K.func, size := 1, bytes := 8, zero := V.nilf }) ∧
 (ti P 66 = some { kind := K.func, size := 1, bytes := 8, zero := V.nilf }) ∧
 (ti P 67 = some { kind := K.other, size := 1, bytes := 0, zero := V.any }) ∧
 (ti P 68 = some { kind := K.func, size := 1, bytes := 8, zero := V.nilf }) ∧
 (ti P 69 = some { kind := K.other, size := 1, bytes := 0, zero := V.any }) ∧
 (ti P 70 = some { kind := K.func, size := 1, bytes := 8, zero := V.nilf }) ∧
 (ti P 71 = some { kind := K.func, size := 1, bytes := 8, zero := V.nilf }) ∧
 (ti P 72 = some { kind := K.func, size := 1, bytes := 8, zero := V.nilf }) ∧
 (ti P 73 = some { kind := K.func, size := 1, bytes := 8, zero := V.nilf }) ∧
 (ti P 74 = some { kind := K.func, size := 1, bytes := 8, zero := V.nilf }) ∧
 (ti P 75 = some { kind := K.func, size := 1, bytes := 8, zero := V.nilf }) ∧
 (ti P 76 = some { kind := K.func, size := 1, bytes := 8, zero := V.nilf }) ∧
 (ti P 77 = some { kind := K.other, size := 1, bytes := 0, zero := V.any }) ∧
 (ti P 78 = some { kind := K.func, size := 1, bytes := 8, zero := V.nilf }) ∧
 (ti P 79 = some { kind := K.func, size := 1, bytes := 8, zero := V.nilf }) ∧
 (ti P 80 = some { kind := K.func, size := 1, bytes := 8, zero := V.nilf }) ∧
 (ti P 81 = some { kind := K.func, size := 1, bytes := 8, zero := V.nilf }) ∧
 (ti P 82 = some { kind := K.func, size := 1, bytes := 8, zero := V.nilf }) ∧
 (ti P 83 = some { kind := K.other, size := 1, bytes := 0, zero := V.any }) ∧
 (ti P 84 = some { kind := K.func, size := 1, bytes := 8, zero := V.nilf }) ∧
 (ti P 85 = some { kind := K.arr 9 3 (some IntKind.i64), size := 9, bytes := 72, zero := V.agg [V.int IntKind.i64 0, V.int IntKind.i64 0, V.int IntKind.i64 0, V.int IntKind.i64 0, V.int IntKind.i64 0, V.int IntKind.i64 0, V.int IntKind.i64 0, V.int IntKind.i64 0, V.int IntKind.i64 0] }) ∧
 (ti P 86 = some { kind := K.other, size := 1, bytes := 0, zero := V.any }) ∧
 (ti P 87 = some { kind := K.func, size := 1, bytes := 8, zero := V.nilf }) ∧
 (ti P 88 = some { kind := K.arr 5 26 none, size := 5, bytes := 120, zero := V.agg [V.nils, V.nils, V.nils, V.nils, V.nils] }) ∧
 (ti P 89 = some { kind := K.other, size := 1, bytes := 0, zero := V.any }) ∧
 (ti P 90 = some { kind := K.func, size := 1, bytes := 8, zero := V.nilf }) ∧
 (ti P 91 = some { kind := K.arr 5 3 (some IntKind.i64), size := 5, bytes := 40, zero := V.agg [V.int IntKind.i64 0, V.int IntKind.i64 0, V.int IntKind.i64 0, V.int IntKind.i64 0, V.int IntKind.i64 0] }) ∧
 (ti P 92 = some { kind := K.func, size := 1, bytes := 8, zero := V.nilf }) ∧
 (ti P 93 = some { kind := K.func, size := 1, bytes := 8, zero := V.nilf }) ∧
 (ti P 94 = some { kind := K.ptr 100, size := 1, bytes := 8, zero := V.nilp }) ∧
 (ti P 95 = some { kind := K.ptr 98, size := 1, bytes := 8, zero := V.nilp }) ∧
 (ti P 96 = some { kind := K.slice 5, size := 1, bytes := 24, zero := V.nils }) ∧
 (ti P 97 = some { kind := K.struct [(0, 95), (1, 96)], size := 2, bytes := 32, zero := V.agg [V.nilp, V.nils] }) ∧
 (ti P 98 = some { kind := K.struct [(0, 95), (1, 96)], size := 2, bytes := 32, zero := V.agg [V.nilp, V.nils] }) ∧
 (ti P 99 = some { kind := K.struct [(0, 98)], size := 2, bytes := 32, zero := V.agg [V.nilp, V.nils] }) ∧
 (ti P 100 = some { kind := K.struct [(0, 98)], size := 2, bytes := 32, zero := V.agg [V.nilp, V.nils] }) ∧
 (ti P 101 = some { kind := K.iface, size := 1, bytes := 16, zero := V.nili }) ∧
 (ti P 102 = some { kind := K.iface, size := 1, bytes := 16, zero := V.nili }) ∧
 (ti P 103 = some { kind := K.other, size := 1, bytes := 0, zero := V.any }) ∧
 (ti P 104 = some { kind := K.func, size := 1, bytes := 8, zero := V.nilf }) ∧
 (ti P 105 = some { kind := K.func, size := 1, bytes := 8, zero := V.nilf }) ∧
 (ti P 106 = some { kind := K.arr 2 3 (some IntKind.i64), size := 2, bytes := 16, zero := V.agg [V.int IntKind.i64 0, V.int IntKind.i64 0] }) ∧
 (ti P 107 = some { kind := K.func, size := 1, bytes := 8, zero := V.nilf }) ∧
 (ti P 108 = some { kind := K.func, size := 1, bytes := 8, zero := V.nilf }) ∧
 (ti P 109 = some { kind := K.func, size := 1, bytes := 8, zero := V.nilf }) ∧
 (ti P 110 = some { kind := K.func, size := 1, bytes := 8, zero := V.nilf }) ∧
 (ti P 111 = some { kind := K.slice 26, size := 1, bytes := 24, zero := V.nils }) ∧
 (ti P 112 = some { kind := K.func, size := 1, bytes := 8, zero := V.nilf }) ∧
 (ti P 113 = some { kind := K.func, size := 1, bytes := 8, zero := V.nilf }) ∧
 (ti P 114 = some { kind := K.func, size := 1, bytes := 8, zero := V.nilf }) ∧
 (ti P 115 = some { kind := K.ptr 38, size := 1, bytes := 8, zero := V.nilp }) ∧
 (ti P 116 = some { kind := K.ptr 123, size := 1, bytes := 8, zero := V.nilp }) ∧
 (ti P 117 = some { kind := K.struct [(0, 9), (1, 3)], size := 2, bytes := 24, zero := V.agg [V.str [], V.int IntKind.i64 0] }) ∧
 (ti P 118 = some { kind := K.struct [(0, 9), (1, 3)], size := 2, bytes := 24, zero := V.agg [V.str [], V.int IntKind.i64 0] }) ∧
 (ti P 119 = some { kind := K.map 3 3, size := 1, bytes := 8, zero := V.nilm }) ∧
 (ti P 120 = some { kind := K.slice 129, size := 1, bytes := 24, zero := V.nils }) ∧
 (ti P 121 = some { kind := K.slice 132, size := 1, bytes := 24, zero := V.nils }) ∧
 (ti P 122 = some { kind := K.struct [(0, 118), (2, 3), (3, 119), (4, 22), (5, 22), (6, 120), (7, 22), (8, 120), (9, 121)], size := 10, bytes := 184, zero := V.agg [V.str [], V.int IntKind.i64 0, V.int IntKind.i64 0, V.nilm, V.nils, V.nils, V.nils, V.nils, V.nils, V.nils] }) ∧
 (ti P 123 = some { kind := K.struct [(0, 118), (2, 3), (3, 119), (4, 22), (5, 22), (6, 120), (7, 22), (8, 120), (9, 121)], size := 10, bytes := 184, zero := V.agg [V.str [], V.int IntKind.i64 0, V.int IntKind.i64 0, V.nilm, V.nils, V.nils, V.nils, V.nils, V.nils, V.nils] }) ∧
 (ti P 124 = some { kind := K.func, size := 1, bytes := 8, zero := V.nilf }) ∧
 (ti P 125 = some { kind := K.arr 4 1 none, size := 4, bytes := 32, zero := V.agg [V.nilf, V.nilf, V.nilf, V.nilf] }) ∧
 (ti P 126 = some { kind := K.arr 4 3 (some IntKind.i64), size := 4, bytes := 32, zero := V.agg [V.int IntKind.i64 0, V.int IntKind.i64 0, V.int IntKind.i64 0, V.int IntKind.i64 0] }) ∧
 (ti P 127 = some { kind := K.func, size := 1, bytes := 8, zero := V.nilf }) ∧
 (ti P 128 = some { kind := K.struct [(0, 3), (1, 3)], size := 2, bytes := 16, zero := V.agg [V.int IntKind.i64 0, V.int IntKind.i64 0] }) ∧
 (ti P 129 = some { kind := K.struct [(0, 3), (1, 3)], size := 2, bytes := 16, zero := V.agg [V.int IntKind.i64 0, V.int IntKind.i64 0] }) ∧
 (ti P 130 = some { kind := K.arr 2 129 none, size := 4, bytes := 32, zero := V.agg [V.int IntKind.i64 0, V.int IntKind.i64 0, V.int IntKind.i64 0, V.int IntKind.i64 0] }) ∧
 (ti P 131 = some { kind := K.struct [(0, 3), (1, 3), (2, 130)], size := 6, bytes := 48, zero := V.agg [V.int IntKind.i64 0, V.int IntKind.i64 0, V.int IntKind.i64 0, V.int IntKind.i64 0, V.int IntKind.i64 0, V.int IntKind.i64 0] }) ∧
 (ti P 132 = some { kind := K.struct [(0, 3), (1, 3), (2, 130)], size := 6, bytes := 48, zero := V.agg [V.int IntKind.i64 0, V.int IntKind.i64 0, V.int IntKind.i64 0, V.int IntKind.i64 0, V.int IntKind.i64 0, V.int IntKind.i64 0] }) ∧
 (ti P 133 = some { kind := K.func, size := 1, bytes := 8, zero := V.nilf }) ∧
 (ti P 134 = some { kind := K.func, size := 1, bytes := 8, zero := V.nilf }) ∧
 (ti P 135 = some { kind := K.func, size := 1, bytes := 8, zero := V.nilf }) ∧
 (ti P 136 = some { kind := K.func, size := 1, bytes := 8, zero := V.nilf }) ∧
 (ti P 137 = some { kind := K.func, size := 1, bytes := 8, zero := V.nilf }) ∧
 (ti P 138 = some { kind := K.arr 3 3 (some IntKind.i64), size := 3, bytes := 24, zero := V.agg [V.int IntKind.i64 0, V.int IntKind.i64 0, V.int IntKind.i64 0] }) ∧
 (ti P 139 = some { kind := K.func, size := 1, bytes := 8, zero := V.nilf }) ∧
 (ti P 140 = some { kind := K.func, size := 1, bytes := 8, zero := V.nilf }) ∧
 (ti P 141 = some { kind := K.func, size := 1, bytes := 8, zero := V.nilf }) ∧
 (ti P 142 = some { kind := K.func, size := 1, bytes := 8, zero := V.nilf }) ∧
 (ti P 143 = some { kind := K.func, size := 1, bytes := 8, zero := V.nilf }) ∧
 (ti P 144 = some { kind := K.func, size := 1, bytes := 8, zero := V.nilf }) ∧
 (ti P 145 = some { kind := K.ptr 149, size := 1, bytes := 8, zero := V.nilp }) ∧
 (ti P 146 = some { kind := K.func, size := 1, bytes := 8, zero := V.nilf }) ∧
 (ti P 147 = some { kind := K.map 106 3, size := 1, bytes := 8, zero := V.nilm }) ∧
 (ti P 148 = some { kind := K.struct [(0, 25), (5, 147), (6, 22)], size := 7, bytes := 136, zero := V.agg [V.int IntKind.i64 0, V.nils, V.nils, V.nils, V.nils, V.nilm, V.nils] }) ∧
 (ti P 149 = some { kind := K.struct [(0, 25), (5, 147), (6, 22)], size := 7, bytes := 136, zero := V.agg [V.int IntKind.i64 0, V.nils, V.nils, V.nils, V.nils, V.nilm, V.nils] }) ∧
 (ti P 150 = some { kind := K.func, size := 1, bytes := 8, zero := V.nilf }) ∧
 (ti P 151 = some { kind := K.func, size := 1, bytes := 8, zero := V.nilf }) ∧
 (ti P 152 = some { kind := K.func, size := 1, bytes := 8, zero := V.nilf }) ∧
 (ti P 153 = some { kind := K.func, size := 1, bytes := 8, zero := V.nilf }) ∧
 (ti P 154 = some { kind := K.struct [(0, 3), (1, 31)], size := 2, bytes := 16, zero := V.agg [V.int IntKind.i64 0, V.int IntKind.i64 0] }) ∧
 (ti P 155 = some { kind := K.struct [(0, 3), (1, 31)], size := 2, bytes := 16, zero := V.agg [V.int IntKind.i64 0, V.int IntKind.i64 0] }) ∧
 (ti P 156 = some { kind := K.other, size := 1, bytes := 0, zero := V.any }) ∧
 (ti P 157 = some { kind := K.ptr 159, size := 1, bytes := 8, zero := V.nilp }) ∧
 (ti P 158 = some { kind := K.struct [(0, 9), (1, 3)], size := 2, bytes := 24, zero := V.agg [V.str [], V.int IntKind.i64 0] }) ∧
 (ti P 159 = some { kind := K.struct [(0, 9), (1, 3)], size := 2, bytes := 24, zero := V.agg [V.str [], V.int IntKind.i64 0] }) ∧
 (ti P 160 = some { kind := K.func, size := 1, bytes := 8, zero := V.nilf }) ∧
 (ti P 161 = some { kind := K.func, size := 1, bytes := 8, zero := V.nilf }) ∧
 (ti P 162 = some { kind := K.struct [(0, 59), (1, 60)], size := 2, bytes := 48, zero := V.agg [V.nils, V.nils] }) ∧
 (ti P 163 = some { kind := K.struct [(0, 59), (1, 60)], size := 2, bytes := 48, zero := V.agg [V.nils, V.nils] }) ∧
 (ti P 164 = some { kind := K.func, size := 1, bytes := 8, zero := V.nilf }) ∧
 (ti P 165 = some { kind := K.func, size := 1, bytes := 8, zero := V.nilf }) ∧
 (ti P 166 = some { kind := K.func, size := 1, bytes := 8, zero := V.nilf }) ∧
 (ti P 167 = some { kind := K.func, size := 1, bytes := 8, zero := V.nilf }) ∧
 (ti P 168 = some { kind := K.func, size := 1, bytes := 8, zero := V.nilf }) ∧
 (ti P 169 = some { kind := K.func, size := 1, bytes := 8, zero := V.nilf }) ∧
 (ti P 170 = some { kind := K.struct [(0, 3), (1, 31)], size := 2, bytes := 16, zero := V.agg [V.int IntKind.i64 0, V.int IntKind.i64 0] }) ∧
 (ti P 171 = some { kind := K.struct [(0, 3), (1, 31)], size := 2, bytes := 16, zero := V.agg [V.int IntKind.i64 0, V.int IntKind.i64 0] }) ∧
 (ti P 172 = some { kind := K.other, size := 1, bytes := 0, zero := V.any }) ∧
 (ti P 173 = some { kind := K.ptr 175, size := 1, bytes := 8, zero := V.nilp }) ∧
 (ti P 175 = some { kind := K.struct [(0, 9), (1, 3)], size := 2, bytes := 24, zero := V.agg [V.str [], V.int IntKind.i64 0] }) ∧
 (ti P 176 = some { kind := K.func, size := 1, bytes := 8, zero := V.nilf }) ∧
 (ti P 177 = some { kind := K.other, size := 1, bytes := 0, zero := V.any }) ∧
 (ti P 178 = some { kind := K.func, size := 1, bytes := 8, zero := V.nilf }) ∧
 (ti P 179 = some { kind := K.func, size := 1, bytes := 8, zero := V.nilf }) ∧
 (ti P 180 = some { kind := K.func, size := 1, bytes := 8, zero := V.nilf }) ∧
 (ti P 181 = some { kind := K.func, size := 1, bytes := 8, zero := V.nilf }) ∧
 (ti P 182 = some { kind := K.func, size := 1, bytes := 8, zero := V.nilf }) ∧
 (ti P 183 = some { kind := K.func, size := 1, bytes := 8, zero := V.nilf }) ∧
 (ti P 184 = some { kind := K.func, size := 1, bytes := 8, zero := V.nilf }) ∧
 (ti P 185 = some { kind := K.other, size := 1, bytes := 0, zero := V.any }) ∧
 (ti P 186 = some { kind := K.func, size := 1, bytes := 8, zero := V.nilf }) ∧
 (ti P 187 = some { kind := K.func, size := 1, bytes := 8, zero := V.nilf }) ∧
 (ti P 188 = some { kind := K.func, size := 1, bytes := 8, zero := V.nilf }) ∧
 (ti P 189 = some { kind := K.ptr 118, size := 1, bytes := 8, zero := V.nilp }) ∧
 (ti P 190 = some { kind := K.func, size := 1, bytes := 8, zero := V.nilf }) ∧
 (ti P 191 = some { kind := K.ptr 88, size := 1, bytes := 8, zero := V.nilp }) ∧
 (ti P 192 = some { kind := K.int IntKind.u64, size := 1, bytes := 8, zero := V.int IntKind.u64 0 }) ∧
 (ti P 193 = some { kind := K.func, size := 1, bytes := 8, zero := V.nilf }) ∧
 (ti P 194 = some { kind := K.ptr 5, size := 1, bytes := 8, zero := V.nilp }) ∧
 (ti P 195 = some { kind := K.func, size := 1, bytes := 8, zero := V.nilf }) ∧
 (ti P 196 = some { kind := K.func, size := 1, bytes := 8, zero := V.nilf }) ∧
 (ti P 197 = some { kind := K.struct [(0, 3), (1, 31)], size := 2, bytes := 16, zero := V.agg [V.int IntKind.i64 0, V.int IntKind.i64 0] }) ∧
 (ti P 198 = some { kind := K.struct [(0, 3), (1, 31)], size := 2, bytes := 16, zero := V.agg [V.int IntKind.i64 0, V.int IntKind.i64 0] }) ∧
 (ti P 199 = some { kind := K.other, size := 1, bytes := 0, zero := V.any }) ∧
 (ti P 200 = some { kind := K.func, size := 1, bytes := 8, zero := V.nilf }) ∧
 (ti P 203 = some { kind := K.other, size := 1, bytes := 0, zero := V.any }) ∧
 (ti P 204 = some { kind := K.func, size := 1, bytes := 8, zero := V.nilf }) ∧
 (ti P 205 = some { kind := K.func, size := 1, bytes := 8, zero := V.nilf }) ∧
 (ti P 206 = some { kind := K.func, size := 1, bytes := 8, zero := V.nilf }) ∧
 (ti P 207 = some { kind := K.func, size := 1, bytes := 8, zero := V.nilf }) ∧
 (ti P 208 = some { kind := K.func, size := 1, bytes := 8, zero := V.nilf }) ∧
 (ti P 209 = some { kind := K.func, size := 1, bytes := 8, zero := V.nilf }) ∧
 (ti P 210 = some { kind := K.func, size := 1, bytes := 8, zero := V.nilf }) ∧
 (ti P 211 = some { kind := K.func, size := 1, bytes := 8, zero := V.nilf }) ∧
 (ti P 212 = some { kind := K.func, size := 1, bytes := 8, zero := V.nilf }) ∧
 (ti P 213 = some { kind := K.struct [(0, 23), (1, 3)], size := 2, bytes := 32, zero := V.agg [V.nils, V.int IntKind.i64 0] }) ∧
 (ti P 214 = some { kind := K.struct [(0, 23), (1, 3)], size := 2, bytes := 32, zero := V.agg [V.nils, V.int IntKind.i64 0] }) ∧
 (ti P 215 = some { kind := K.func, size := 1, bytes := 8, zero := V.nilf }) ∧
 (ti P 216 = some { kind := K.func, size := 1, bytes := 8, zero := V.nilf }) ∧
 (ti P 217 = some { kind := K.func, size := 1, bytes := 8, zero := V.nilf }) ∧
 (ti P 218 = some { kind := K.func, size := 1, bytes := 8, zero := V.nilf }) ∧
 (ti P 219 = some { kind := K.func, size := 1, bytes := 8, zero := V.nilf }) ∧
 (ti P 220 = some { kind := K.func, size := 1, bytes := 8, zero := V.nilf }) ∧
 (ti P 221 = some { kind := K.func, size := 1, bytes := 8, zero := V.nilf }) ∧
 (ti P 222 = some { kind := K.other, size := 1, bytes := 0, zero := V.any }) ∧
 (ti P 223 = some { kind := K.func, size := 1, bytes := 8, zero := V.nilf }) ∧
 (ti P 224 = some { kind := K.func, size := 1, bytes := 8, zero := V.nilf }) ∧
 (ti P 225 = some { kind := K.func, size := 1, bytes := 8, zero := V.nilf }) ∧
 (ti P 226 = some { kind := K.func, size := 1, bytes := 8, zero := V.nilf }) ∧
 (ti P 227 = some { kind := K.func, size := 1, bytes := 8, zero := V.nilf }) ∧
 (ti P 228 = some { kind := K.func, size := 1, bytes := 8, zero := V.nilf }) ∧
 (ti P 229 = some { kind := K.func, size := 1, bytes := 8, zero := V.nilf }) ∧
 (ti P 230 = some { kind := K.func, size := 1, bytes := 8, zero := V.nilf }) ∧
 (ti P 231 = some { kind := K.func, size := 1, bytes := 8, zero := V.nilf }) ∧
 (ti P 232 = some { kind := K.func, size := 1, bytes := 8, zero := V.nilf }) ∧
 (ti P 233 = some { kind := K.ptr 235, size := 1, bytes := 8, zero := V.nilp }) ∧
 (ti P 234 = some { kind := K.struct [(0, 102)], size := 1, bytes := 16, zero := V.agg [V.nili] }) ∧
 (ti P 235 = some { kind := K.struct [(0, 102)], size := 1, bytes := 16, zero := V.agg [V.nili] }) ∧
 (ti P 236 = some { kind := K.func, size := 1, bytes := 8, zero := V.nilf }) ∧
 (ti P 237 = some { kind := K.func, size := 1, bytes := 8, zero := V.nilf }) ∧
 (ti P 238 = some { kind := K.other, size := 1, bytes := 0, zero := V.any }) ∧
 (ti P 239 = some { kind := K.func, size := 1, bytes := 8, zero := V.nilf }) ∧
 (ti P 240 = some { kind := K.func, size := 1, bytes := 8, zero := V.nilf }) ∧
 (ti P 241 = some { kind := K.func, size := 1, bytes := 8, zero := V.nilf }) ∧
 (ti P 242 = some { kind := K.other, size := 1, bytes := 8, zero := V.nilp }) ∧
 (ti P 243 = some { kind := K.func, size := 1, bytes := 8, zero := V.nilf }) ∧
 (ti P 244 = some { kind := K.func, size := 1, bytes := 8, zero := V.nilf }) ∧
 (ti P 245 = some { kind := K.func, size := 1, bytes := 8, zero := V.nilf }) ∧
 (ti P 246 = some { kind := K.map 9 4, size := 1, bytes := 8, zero := V.nilm }) ∧
 (ti P 247 = some { kind := K.func, size := 1, bytes := 8, zero := V.nilf }) ∧
 (ti P 248 = some { kind := K.func, size := 1, bytes := 8, zero := V.nilf }) ∧
 (ti P 249 = some { kind := K.map 3 4, size := 1, bytes := 8, zero := V.nilm }) ∧
 (ti P 250 = some { kind := K.func, size := 1, bytes := 8, zero := V.nilf }) ∧
 (ti P 251 = some { kind := K.func, size := 1, bytes := 8, zero := V.nilf }) ∧
 (ti P 252 = some { kind := K.func, size := 1, bytes := 8, zero := V.nilf }) ∧
 (ti P 253 = some { kind := K.func, size := 1, bytes := 8, zero := V.nilf }) ∧
 (ti P 254 = some { kind := K.func, size := 1, bytes := 8, zero := V.nilf }) ∧
 (ti P 255 = some { kind := K.func, size := 1, bytes := 8, zero := V.nilf }) ∧
 (ti P 256 = some { kind := K.other, size := 1, bytes := 0, zero := V.any }) ∧
 (ti P 257 = some { kind := K.func, size := 1, bytes := 8, zero := V.nilf }) ∧
 (ti P 258 = some { kind := K.arr 2 3 (some IntKind.i64), size := 2, bytes := 16, zero := V.agg [V.int IntKind.i64 0, V.int IntKind.i64 0] }) ∧
 (ti P 259 = some { kind := K.func, size := 1, bytes := 8, zero := V.nilf }) ∧
 (ti P 260 = some { kind := K.func, size := 1, bytes := 8, zero := V.nilf }) ∧
 (ti P 261 = some { kind := K.func, size := 1, bytes := 8, zero := V.nilf }) ∧
 (ti P 262 = some { kind := K.func, size := 1, bytes := 8, zero := V.nilf }) ∧
 (ti P 263 = some { kind := K.ptr 31, size := 1, bytes := 8, zero := V.nilp }) ∧
 (ti P 264 = some { kind := K.func, size := 1, bytes := 8, zero := V.nilf }) ∧
 (ti P 265 = some { kind := K.str, size := 1, bytes := 16, zero := V.str [] }) ∧
 (ti P 267 = some { kind := K.int IntKind.u64, size := 1, bytes := 8, zero := V.int IntKind.u64 0 }) ∧
 (ti P 268 = some { kind := K.func, size := 1, bytes := 8, zero := V.nilf }) ∧
 (ti P 269 = some { kind := K.func, size := 1, bytes := 8, zero := V.nilf }) ∧
 (ti P 270 = some { kind := K.other, size := 1, bytes := 0, zero := V.any }) ∧
 (ti P 271 = some { kind := K.func, size := 1, bytes := 8, zero := V.nilf }) ∧
 (ti P 272 = some { kind := K.func, size := 1, bytes := 8, zero := V.nilf }) ∧
 (ti P 273 = some { kind := K.func, size := 1, bytes := 8, zero := V.nilf }) ∧
 (ti P 274 = some { kind := K.func, size := 1, bytes := 8, zero := V.nilf }) ∧
 (ti P 275 = some { kind := K.func, size := 1, bytes := 8, zero := V.nilf }) ∧
 (ti P 276 = some { kind := K.func, size := 1, bytes := 8, zero := V.nilf }) ∧
 (ti P 277 = some { kind := K.func, size := 1, bytes := 8, zero := V.nilf }) ∧
 (ti P 278 = some { kind := K.int IntKind.u64, size := 1, bytes := 8, zero := V.int IntKind.u64 0 }) ∧
 (ti P 279 = some { kind := K.struct [(0, 17), (1, 242), (2, 278)], size := 3, bytes := 24, zero := V.agg [V.nilp, V.nilp, V.int IntKind.u64 0] }) ∧
 (ti P 280 = some { kind := K.struct [(0, 17), (1, 242), (2, 278)], size := 3, bytes := 24, zero := V.agg [V.nilp, V.nilp, V.int IntKind.u64 0] }) ∧
 (ti P 281 = some { kind := K.func, size := 1, bytes := 8, zero := V.nilf }) ∧
 (ti P 282 = some { kind := K.iface, size := 1, bytes := 16, zero := V.nili }) ∧
 (ti P 283 = some { kind := K.iface, size := 1, bytes := 16, zero := V.nili }) ∧
 (ti P 284 = some { kind := K.func, size := 1, bytes := 8, zero := V.nilf }) ∧
 (ti P 285 = some { kind := K.int IntKind.u8, size := 1, bytes := 1, zero := V.int IntKind.u8 0 }) ∧
 (ti P 286 = some { kind := K.func, size := 1, bytes := 8, zero := V.nilf }) ∧
 (ti P 287 = some { kind := K.func, size := 1, bytes := 8, zero := V.nilf }) ∧
 (ti P 288 = some { kind := K.func, size := 1, bytes := 8, zero := V.nilf }) ∧
 (ti P 289 = some { kind := K.func, size := 1, bytes := 8, zero := V.nilf }) ∧
 (ti P 290 = some { kind := K.func, size := 1, bytes := 8, zero := V.nilf }) ∧
 (ti P 291 = some { kind := K.func, size := 1, bytes := 8, zero := V.nilf }) ∧
 (ti P 292 = some { kind := K.func, size := 1, bytes := 8, zero := V.nilf }) ∧
 (ti P 294 = some { kind := K.int IntKind.u32, size := 1, bytes := 4, zero := V.int IntKind.u32 0 }) ∧
 (ti P 297 = some { kind := K.func, size := 1, bytes := 8, zero := V.nilf }) ∧
 (ti P 299 = some { kind := K.int IntKind.i64, size := 1, bytes := 8, zero := V.int IntKind.i64 0 }) ∧
 (ti P 300 = some { kind := K.other, size := 1, bytes := 0, zero := V.any }) ∧
 (ti P 302 = some { kind := K.func, size := 1, bytes := 8, zero := V.nilf }) ∧
 (ti P 306 = some { kind := K.struct [(0, 17)], size := 1, bytes := 8, zero := V.agg [V.nilp] }) ∧
 (ti P 307 = some { kind := K.struct [(0, 17)], size := 1, bytes := 8, zero := V.agg [V.nilp] }) ∧
 (ti P 312 = some { kind := K.iface, size := 1, bytes := 16, zero := V.nili }) ∧
 (ti P 313 = some { kind := K.other, size := 1, bytes := 0, zero := V.any }) ∧
 (ti P 314 = some { kind := K.func, size := 1, bytes := 8, zero := V.nilf }) ∧
 (ti P 315 = some { kind := K.iface, size := 1, bytes := 16, zero := V.nili }) ∧
 (ti P 316 = some { kind := K.func, size := 1, bytes := 8, zero := V.nilf }) ∧
 (ti P 317 = some { kind := K.iface, size := 1, bytes := 16, zero := V.nili }) ∧
 (ti P 318 = some { kind := K.slice 102, size := 1, bytes := 24, zero := V.nils }) ∧
 (ti P 319 = some { kind := K.func, size := 1, bytes := 8, zero := V.nilf }) ∧
 (ti P 320 = some { kind := K.int IntKind.i64, size := 1, bytes := 8, zero := V.int IntKind.i64 0 }) ∧
 (ti P 321 = some { kind := K.other, size := 1, bytes := 0, zero := V.any }) ∧
 (ti P 323 = some { kind := K.ptr 339, size := 1, bytes := 8, zero := V.nilp }) ∧
 (ti P 327 = some { kind := K.other, size := 1, bytes := 0, zero := V.any }) ∧
 (ti P 329 = some { kind := K.int IntKind.u64, size := 1, bytes := 8, zero := V.int IntKind.u64 0 }) ∧
 (ti P 333 = some { kind := K.ptr 3, size := 1, bytes := 8, zero := V.nilp }) ∧
 (ti P 334 = some { kind := K.func, size := 1, bytes := 8, zero := V.nilf }) ∧
 (ti P 335 = some { kind := K.other, size := 1, bytes := 0, zero := V.any }) ∧
 (ti P 339 = some { kind := K.struct [(0, 9), (1, 9), (2, 102)], size := 3, bytes := 48, zero := V.agg [V.str [], V.str [], V.nili] }) ∧
 (ti P 343 = some { kind := K.ptr 329, size := 1, bytes := 8, zero := V.nilp }) ∧
 (ti P 346 = some { kind := K.ptr 348, size := 1, bytes := 8, zero := V.nilp }) ∧
 (ti P 348 = some { kind := K.struct [(0, 9)], size := 1, bytes := 16, zero := V.agg [V.str []] }) ∧
 (ti P 351 = some { kind := K.arr 0 16 none, size := 0, bytes := 0, zero := V.agg [] }) ∧
 (ti P 354 = some { kind := K.func, size := 1, bytes := 8, zero := V.nilf }) ∧
 (ti P 363 = some { kind := K.struct [(0, 9), (1, 285)], size := 2, bytes := 24, zero := V.agg [V.str [], V.int IntKind.u8 0] }) :=
  ⟨rfl, rfl, rfl, rfl, rfl, rfl, rfl, rfl, rfl, rfl, rfl, rfl, rfl, rfl, rfl, rfl, rfl, rfl, rfl, rfl, rfl, rfl, rfl, rfl, rfl, rfl, rfl, rfl, rfl, rfl, rfl, rfl, rfl, rfl, rfl, rfl, rfl, rfl, rfl, rfl, rfl, rfl, rfl, rfl, rfl, rfl, rfl, rfl, rfl, rfl, rfl, rfl, rfl, rfl, rfl, rfl, rfl, rfl, rfl, rfl, rfl, rfl, rfl, rfl, rfl, rfl, rfl, rfl, rfl, rfl, rfl, rfl, rfl, rfl, rfl, rfl, rfl, rfl, rfl, rfl, rfl, rfl, rfl, rfl, rfl, rfl, rfl, rfl, rfl, rfl, rfl, rfl, rfl, rfl, rfl, rfl, rfl, rfl, rfl, rfl, rfl, rfl, rfl, rfl, rfl, rfl, rfl, rfl, rfl, rfl, rfl, rfl, rfl, rfl, rfl, rfl, rfl, rfl, rfl, rfl, rfl, rfl, rfl, rfl, rfl, rfl, rfl, rfl, rfl, rfl, rfl, rfl, rfl, rfl, rfl, rfl, rfl, rfl, rfl, rfl, rfl, rfl, rfl, rfl, rfl, rfl, rfl, rfl, rfl, rfl, rfl, rfl, rfl, rfl, rfl, rfl, rfl, rfl, rfl, rfl, rfl, rfl, rfl, rfl, rfl, rfl, rfl, rfl, rfl, rfl, rfl, rfl, rfl, rfl, rfl, rfl, rfl, rfl, rfl, rfl, rfl, rfl, rfl, rfl, rfl, rfl, rfl, rfl, rfl, rfl, rfl, rfl, rfl, rfl, rfl, rfl, rfl, rfl, rfl, rfl, rfl, rfl, rfl, rfl, rfl, rfl, rfl, rfl, rfl, rfl, rfl, rfl, rfl, rfl, rfl, rfl, rfl, rfl, rfl, rfl, rfl, rfl, rfl, rfl, rfl, rfl, rfl, rfl, rfl, rfl, rfl, rfl, rfl, rfl, rfl, rfl, rfl, rfl, rfl, rfl, rfl, rfl, rfl, rfl, rfl, rfl, rfl, rfl, rfl, rfl, rfl, rfl, rfl, rfl, rfl, rfl, rfl, rfl, rfl, rfl, rfl, rfl, rfl, rfl, rfl, rfl, rfl, rfl, rfl, rfl, rfl, rfl, rfl, rfl, rfl, rfl, rfl, rfl, rfl, rfl, rfl, rfl, rfl, rfl, rfl, rfl, rfl, rfl, rfl, rfl, rfl, rfl, rfl, rfl, rfl, rfl, rfl, rfl, rfl, rfl, rfl, rfl, rfl, rfl, rfl, rfl, rfl, rfl, rfl, rfl, rfl, rfl, rfl, rfl, rfl, rfl, rfl, rfl, rfl⟩
set_option maxRecDepth 100000 in
theorem ens : (zf P 4 = true) ∧
 (zf P 7 = true) ∧
 (zf P 8 = true) ∧
 (zf P 12 = true) ∧
 (zf P 14 = true) ∧
 (zf P 15 = true) ∧
 (zf P 16 = true) ∧
 (zf P 19 = true) ∧
 (zf P 20 = true) ∧
 (zf P 21 = true) ∧
 (zf P 22 = true) ∧
 (zf P 23 = true) ∧
 (zf P 24 = true) ∧
 (zf P 25 = true) ∧
 (zf P 27 = true) ∧
 (zf P 29 = true) ∧
 (zf P 30 = true) ∧
 (zf P 31 = true) ∧
 (zf P 32 = true) ∧
 (zf P 33 = true) ∧
 (zf P 34 = true) ∧
 (zf P 35 = true) ∧
 (zf P 37 = true) ∧
 (zf P 38 = true) ∧
 (zf P 40 = true) ∧
 (zf P 42 = true) ∧
 (zf P 45 = true) ∧
 (zf P 46 = true) ∧
 (zf P 48 = true) ∧
 (zf P 49 = true) ∧
 (zf P 50 = true) ∧
 (zf P 52 = true) ∧
 (zf P 53 = true) ∧
 (zf P 54 = true) ∧
 (zf P 55 = true) ∧
 (zf P 56 = true) ∧
 (zf P 57 = true) ∧
 (zf P 58 = true) ∧
 (zf P 59 = true) ∧
 (zf P 60 = true) ∧
 (zf P 65 = true) ∧
 (zf P 66 = true) ∧
 (zf P 67 = true) ∧
 (zf P 68 = true) ∧
 (zf P 69 = true) ∧
 (zf P 70 = true) ∧
 (zf P 71 = true) ∧
 (zf P 72 = true) ∧
 (zf P 73 = true) ∧
 (zf P 74 = true) ∧
 (zf P 75 = true) ∧
 (zf P 76 = true) ∧
 (zf P 77 = true) ∧
 (zf P 78 = true) ∧
 (zf P 79 = true) ∧
 (zf P 80 = true) ∧
 (zf P 83 = true) ∧
 (zf P 84 = true) ∧
 (zf P 86 = true) ∧
 (zf P 87 = true) ∧
 (zf P 88 = true) ∧
 (zf P 89 = true) ∧
 (zf P 90 = true) ∧
 (zf P 91 = true) ∧
 (zf P 92 = true) ∧
 (zf P 93 = true) ∧
 (zf P 94 = true) ∧
 (zf P 95 = true) ∧
 (zf P 96 = true) ∧
 (zf P 97 = true) ∧
 (zf P 98 = true) ∧
 (zf P 99 = true) ∧
 (zf P 100 = true) ∧
 (zf P 101 = true) ∧
 (zf P 106 = true) ∧
 (zf P 107 = true) ∧
 (zf P 108 = true) ∧
 (zf P 109 = true) ∧
 (zf P 113 = true) ∧
 (zf P 114 = true) ∧
 (zf P 115 = true) ∧
 (zf P 116 = true) ∧
 (zf P 117 = true) ∧
 (zf P 118 = true) ∧
 (zf P 119 = true) ∧
 (zf P 120 = true) ∧
 (zf P 121 = true) ∧
 (zf P 122 = true) ∧
 (zf P 123 = true) ∧
 (zf P 124 = true) ∧
 (zf P 127 = true) ∧
 (zf P 128 = true) ∧
 (zf P 129 = true) ∧
 (zf P 130 = true) ∧
 (zf P 131 = true) ∧
 (zf P 132 = true) ∧
 (zf P 133 = true) ∧
 (zf P 134 = true) ∧
 (zf P 136 = true) ∧
 (zf P 137 = true) ∧
 (zf P 138 = true) ∧
 (zf P 139 = true) ∧
 (zf P 140 = true) ∧
 (zf P 141 = true) ∧
 (zf P 142 = true) ∧
 (zf P 143 = true) ∧
 (zf P 144 = true) ∧
 (zf P 145 = true) ∧
 (zf P 146 = true) ∧
 (zf P 147 = true) ∧
 (zf P 148 = true) ∧
 (zf P 149 = true) ∧
 (zf P 150 = true) ∧
 (zf P 151 = true) ∧
 (zf P 152 = true) ∧
 (zf P 154 = true) ∧
 (zf P 155 = true) ∧
 (zf P 156 = true) ∧
 (zf P 162 = true) ∧
 (zf P 163 = true) ∧
 (zf P 164 = true) ∧
 (zf P 165 = true) ∧
 (zf P 166 = true) ∧
 (zf P 167 = true) ∧
 (zf P 168 = true) ∧
 (zf P 169 = true) ∧
 (zf P 170 = true) ∧
 (zf P 171 = true) ∧
 (zf P 173 = true) ∧
 (zf P 179 = true) ∧
 (zf P 180 = true) ∧
 (zf P 181 = true) ∧
 (zf P 182 = true) ∧
 (zf P 183 = true) ∧
 (zf P 184 = true) ∧
 (zf P 185 = true) ∧
 (zf P 186 = true) ∧
 (zf P 187 = true) ∧
 (zf P 188 = true) ∧
 (zf P 189 = true) ∧
 (zf P 190 = true) ∧
 (zf P 191 = true) ∧
 (zf P 193 = true) ∧
 (zf P 194 = true) ∧
 (zf P 195 = true) ∧
 (zf P 196 = true) ∧
 (zf P 197 = true) ∧
 (zf P 198 = true) ∧
 (zf P 199 = true) ∧
 (zf P 200 = true) ∧
 (zf P 203 = true) ∧
 (zf P 204 = true) ∧
 (zf P 205 = true) ∧
 (zf P 206 = true) ∧
 (zf P 207 = true) ∧
 (zf P 208 = true) ∧
 (zf P 209 = true) ∧
 (zf P 210 = true) ∧
 (zf P 212 = true) ∧
 (zf P 213 = true) ∧
 (zf P 214 = true) ∧
 (zf P 215 = true) ∧
 (zf P 216 = true) ∧
 (zf P 217 = true) ∧
 (zf P 218 = true) ∧
 (zf P 219 = true) ∧
 (zf P 220 = true) ∧
 (zf P 221 = true) ∧
 (zf P 222 = true) ∧
 (zf P 223 = true) ∧
 (zf P 224 = true) ∧
 (zf P 225 = true) ∧
 (zf P 226 = true) ∧
 (zf P 227 = true) ∧
 (zf P 228 = true) ∧
 (zf P 229 = true) ∧
 (zf P 230 = true) ∧
 (zf P 231 = true) ∧
 (zf P 232 = true) ∧
 (zf P 233 = true) ∧
 (zf P 237 = true) ∧
 (zf P 238 = true) ∧
 (zf P 239 = true) ∧
 (zf P 241 = true) ∧
 (zf P 242 = true) ∧
 (zf P 243 = true) ∧
 (zf P 244 = true) ∧
 (zf P 245 = true) ∧
 (zf P 246 = true) ∧
 (zf P 247 = true) ∧
 (zf P 248 = true) ∧
 (zf P 250 = true) ∧
 (zf P 252 = true) ∧
 (zf P 253 = true) ∧
 (zf P 254 = true) ∧
 (zf P 255 = true) ∧
 (zf P 256 = true) ∧
 (zf P 257 = true) ∧
 (zf P 258 = true) ∧
 (zf P 259 = true) ∧
 (zf P 260 = true) ∧
 (zf P 261 = true) ∧
 (zf P 262 = true) ∧
 (zf P 263 = true) ∧
 (zf P 264 = true) ∧
 (zf P 268 = true) ∧
 (zf P 269 = true) ∧
 (zf P 270 = true) ∧
 (zf P 271 = true) ∧
 (zf P 272 = true) ∧
 (zf P 274 = true) ∧
 (zf P 275 = true) ∧
 (zf P 276 = true) ∧
 (zf P 277 = true) ∧
 (zf P 278 = true) ∧
 (zf P 279 = true) ∧
 (zf P 280 = true) ∧
 (zf P 281 = true) ∧
 (zf P 282 = true) ∧
 (zf P 283 = true) ∧
 (zf P 284 = true) ∧
 (zf P 285 = true) ∧
 (zf P 286 = true) ∧
 (zf P 287 = true) ∧
 (zf P 288 = true) ∧
 (zf P 289 = true) ∧
 (zf P 290 = true) ∧
 (zf P 291 = true) ∧
 (zf P 292 = true) :=
  ⟨rfl, rfl, rfl, rfl, rfl, rfl, rfl, rfl, rfl, rfl, rfl, rfl, rfl, rfl, rfl, rfl, rfl, rfl, rfl, rfl, rfl, rfl, rfl, rfl, rfl, rfl, rfl, rfl, rfl, rfl, rfl, rfl, rfl, rfl, rfl, rfl, rfl, rfl, rfl, rfl, rfl, rfl, rfl, rfl, rfl, rfl, rfl, rfl, rfl, rfl, rfl, rfl, rfl, rfl, rfl, rfl, rfl, rfl, rfl, rfl, rfl, rfl, rfl, rfl, rfl, rfl, rfl, rfl, rfl, rfl, rfl, rfl, rfl, rfl, rfl, rfl, rfl, rfl, rfl, rfl, rfl, rfl, rfl, rfl, rfl, rfl, rfl, rfl, rfl, rfl, rfl, rfl, rfl, rfl, rfl, rfl, rfl, rfl, rfl, rfl, rfl, rfl, rfl, rfl, rfl, rfl, rfl, rfl, rfl, rfl, rfl, rfl, rfl, rfl, rfl, rfl, rfl, rfl, rfl, rfl, rfl, rfl, rfl, rfl, rfl, rfl, rfl, rfl, rfl, rfl, rfl, rfl, rfl, rfl, rfl, rfl, rfl, rfl, rfl, rfl, rfl, rfl, rfl, rfl, rfl, rfl, rfl, rfl, rfl, rfl, rfl, rfl, rfl, rfl, rfl, rfl, rfl, rfl, rfl, rfl, rfl, rfl, rfl, rfl, rfl, rfl, rfl, rfl, rfl, rfl, rfl, rfl, rfl, rfl, rfl, rfl, rfl, rfl, rfl, rfl, rfl, rfl, rfl, rfl, rfl, rfl, rfl, rfl, rfl, rfl, rfl, rfl, rfl, rfl, rfl, rfl, rfl, rfl, rfl, rfl, rfl, rfl, rfl, rfl, rfl, rfl, rfl, rfl, rfl, rfl, rfl, rfl, rfl, rfl, rfl, rfl, rfl, rfl, rfl, rfl, rfl, rfl, rfl, rfl, rfl, rfl, rfl, rfl, rfl⟩
set_option maxRecDepth 100000 in
theorem nts : (Tryz.f4.ntmps = 82) ∧
 (Tryz.f7.ntmps = 135) ∧
 (Tryz.f8.ntmps = 82) ∧
 (Tryz.f12.ntmps = 165) ∧
 (Tryz.f14.ntmps = 118) ∧
 (Tryz.f15.ntmps = 29) ∧
 (Tryz.f16.ntmps = 151) ∧
 (Tryz.f19.ntmps = 51) ∧
 (Tryz.f20.ntmps = 19) ∧
 (Tryz.f21.ntmps = 143) ∧
 (Tryz.f22.ntmps = 31) ∧
 (Tryz.f23.ntmps = 38) ∧
 (Tryz.f24.ntmps = 123) ∧
 (Tryz.f25.ntmps = 108) ∧
 (Tryz.f27.ntmps = 39) ∧
 (Tryz.f29.ntmps = 35) ∧
 (Tryz.f30.ntmps = 95) ∧
 (Tryz.f31.ntmps = 64) ∧
 (Tryz.f32.ntmps = 10) ∧
 (Tryz.f33.ntmps = 172) ∧
 (Tryz.f34.ntmps = 147) ∧
 (Tryz.f35.ntmps = 32) ∧
 (Tryz.f37.ntmps = 10) ∧
 (Tryz.f38.ntmps = 76) ∧
 (Tryz.f40.ntmps = 43) ∧
 (Tryz.f42.ntmps = 88) ∧
 (Tryz.f45.ntmps = 45) ∧
 (Tryz.f46.ntmps = 26) ∧
 (Tryz.f48.ntmps = 58) ∧
 (Tryz.f49.ntmps = 63) ∧
 (Tryz.f50.ntmps = 24) ∧
 (Tryz.f52.ntmps = 31) ∧
 (Tryz.f53.ntmps = 22) ∧
 (Tryz.f54.ntmps = 80) ∧
 (Tryz.f55.ntmps = 26) ∧
 (Tryz.f56.ntmps = 27) ∧
 (Tryz.f57.ntmps = 57) ∧
 (Tryz.f58.ntmps = 19) ∧
 (Tryz.f59.ntmps = 30) ∧
 (Tryz.f60.ntmps = 14) ∧
 (Tryz.f65.ntmps = 5) ∧
 (Tryz.f66.ntmps = 84) ∧
 (Tryz.f67.ntmps = 20) ∧
 (Tryz.f68.ntmps = 84) ∧
 (Tryz.f69.ntmps = 17) ∧
 (Tryz.f70.ntmps = 78) ∧
 (Tryz.f71.ntmps = 17) ∧
 (Tryz.f72.ntmps = 42) ∧
 (Tryz.f73.ntmps = 30) ∧
 (Tryz.f74.ntmps = 133) ∧
 (Tryz.f75.ntmps = 36) ∧
 (Tryz.f76.ntmps = 12) ∧
 (Tryz.f77.ntmps = 26) ∧
 (Tryz.f78.ntmps = 26) ∧
 (Tryz.f79.ntmps = 26) ∧
 (Tryz.f80.ntmps = 21) ∧
 (Tryz.f83.ntmps = 4) ∧
 (Tryz.f84.ntmps = 18) ∧
 (Tryz.f86.ntmps = 103) ∧
 (Tryz.f87.ntmps = 32) ∧
 (Tryz.f88.ntmps = 77) ∧
 (Tryz.f89.ntmps = 16) ∧
 (Tryz.f90.ntmps = 25) ∧
 (Tryz.f91.ntmps = 21) ∧
 (Tryz.f92.ntmps = 10) ∧
 (Tryz.f93.ntmps = 15) ∧
 (Tryz.f94.ntmps = 49) ∧
 (Tryz.f95.ntmps = 62) ∧
 (Tryz.f96.ntmps = 18) ∧
 (Tryz.f97.ntmps = 22) ∧
 (Tryz.f98.ntmps = 12) ∧
 (Tryz.f99.ntmps = 41) ∧
 (Tryz.f100.ntmps = 34) ∧
 (Tryz.f101.ntmps = 16) ∧
 (Tryz.f106.ntmps = 52) ∧
 (Tryz.f107.ntmps = 12) ∧
 (Tryz.f108.ntmps = 19) ∧
 (Tryz.f109.ntmps = 27) ∧
 (Tryz.f113.ntmps = 26) ∧
 (Tryz.f114.ntmps = 9) ∧
 (Tryz.f115.ntmps = 5) ∧
 (Tryz.f116.ntmps = 9) ∧
 (Tryz.f117.ntmps = 17) ∧
 (Tryz.f118.ntmps = 18) ∧
 (Tryz.f119.ntmps = 25) ∧
 (Tryz.f120.ntmps = 42) ∧
 (Tryz.f121.ntmps = 15) ∧
 (Tryz.f122.ntmps = 43) ∧
 (Tryz.f123.ntmps = 28) ∧
 (Tryz.f124.ntmps = 32) ∧
 (Tryz.f127.ntmps = 57) ∧
 (Tryz.f128.ntmps = 21) ∧
 (Tryz.f129.ntmps = 14) ∧
 (Tryz.f130.ntmps = 6) ∧
 (Tryz.f131.ntmps = 25) ∧
 (Tryz.f132.ntmps = 111) ∧
 (Tryz.f133.ntmps = 9) ∧
 (Tryz.f134.ntmps = 20) ∧
 (Tryz.f136.ntmps = 5) ∧
 (Tryz.f137.ntmps = 5) ∧
 (Tryz.f138.ntmps = 19) ∧
 (Tryz.f139.ntmps = 18) ∧
 (Tryz.f140.ntmps = 8) ∧
 (Tryz.f141.ntmps = 28) ∧
 (Tryz.f142.ntmps = 31) ∧
 (Tryz.f143.ntmps = 4) ∧
 (Tryz.f144.ntmps = 54) ∧
 (Tryz.f145.ntmps = 4) ∧
 (Tryz.f146.ntmps = 25) ∧
 (Tryz.f147.ntmps = 36) ∧
 (Tryz.f148.ntmps = 94) ∧
 (Tryz.f149.ntmps = 18) ∧
 (Tryz.f150.ntmps = 22) ∧
 (Tryz.f151.ntmps = 27) ∧
 (Tryz.f152.ntmps = 75) ∧
 (Tryz.f154.ntmps = 38) ∧
 (Tryz.f155.ntmps = 9) ∧
 (Tryz.f156.ntmps = 4) ∧
 (Tryz.f162.ntmps = 11) ∧
 (Tryz.f163.ntmps = 9) ∧
 (Tryz.f164.ntmps = 9) ∧
 (Tryz.f165.ntmps = 50) ∧
 (Tryz.f166.ntmps = 8) ∧
 (Tryz.f167.ntmps = 25) ∧
 (Tryz.f168.ntmps = 6) ∧
 (Tryz.f169.ntmps = 37) ∧
 (Tryz.f170.ntmps = 20) ∧
 (Tryz.f171.ntmps = 28) ∧
 (Tryz.f173.ntmps = 18) ∧
 (Tryz.f179.ntmps = 14) ∧
 (Tryz.f180.ntmps = 9) ∧
 (Tryz.f181.ntmps = 4) ∧
 (Tryz.f182.ntmps = 9) ∧
 (Tryz.f183.ntmps = 19) ∧
 (Tryz.f184.ntmps = 35) ∧
 (Tryz.f185.ntmps = 19) ∧
 (Tryz.f186.ntmps = 34) ∧
 (Tryz.f187.ntmps = 8) ∧
 (Tryz.f188.ntmps = 36) ∧
 (Tryz.f189.ntmps = 13) ∧
 (Tryz.f190.ntmps = 5) ∧
 (Tryz.f191.ntmps = 19) ∧
 (Tryz.f193.ntmps = 54) ∧
 (Tryz.f194.ntmps = 9) ∧
 (Tryz.f195.ntmps = 6) ∧
 (Tryz.f196.ntmps = 18) ∧
 (Tryz.f197.ntmps = 19) ∧
 (Tryz.f198.ntmps = 27) ∧
 (Tryz.f199.ntmps = 25) ∧
 (Tryz.f200.ntmps = 17) ∧
 (Tryz.f203.ntmps = 19) ∧
 (Tryz.f204.ntmps = 8) ∧
 (Tryz.f205.ntmps = 50) ∧
 (Tryz.f206.ntmps = 4) ∧
 (Tryz.f207.ntmps = 57) ∧
 (Tryz.f208.ntmps = 28) ∧
 (Tryz.f209.ntmps = 28) ∧
 (Tryz.f210.ntmps = 18) ∧
 (Tryz.f212.ntmps = 5) ∧
 (Tryz.f213.ntmps = 11) ∧
 (Tryz.f214.ntmps = 16) ∧
 (Tryz.f215.ntmps = 6) ∧
 (Tryz.f216.ntmps = 42) ∧
 (Tryz.f217.ntmps = 18) ∧
 (Tryz.f218.ntmps = 8) ∧
 (Tryz.f219.ntmps = 27) ∧
 (Tryz.f220.ntmps = 23) ∧
 (Tryz.f221.ntmps = 17) ∧
 (Tryz.f222.ntmps = 15) ∧
 (Tryz.f223.ntmps = 15) ∧
 (Tryz.f224.ntmps = 167) ∧
 (Tryz.f225.ntmps = 102) ∧
 (Tryz.f226.ntmps = 19) ∧
 (Tryz.f227.ntmps = 30) ∧
 (Tryz.f228.ntmps = 19) ∧
 (Tryz.f229.ntmps = 34) ∧
 (Tryz.f230.ntmps = 36) ∧
 (Tryz.f231.ntmps = 13) ∧
 (Tryz.f232.ntmps = 134) ∧
 (Tryz.f233.ntmps = 8) ∧
 (Tryz.f237.ntmps = 62) ∧
 (Tryz.f238.ntmps = 77) ∧
 (Tryz.f239.ntmps = 43) ∧
 (Tryz.f241.ntmps = 143) ∧
 (Tryz.f242.ntmps = 9) ∧
 (Tryz.f243.ntmps = 8) ∧
 (Tryz.f244.ntmps = 6) ∧
 (Tryz.f245.ntmps = 25) ∧
 (Tryz.f246.ntmps = 4) ∧
 (Tryz.f247.ntmps = 8) ∧
 (Tryz.f248.ntmps = 8) ∧
 (Tryz.f250.ntmps = 10) ∧
 (Tryz.f252.ntmps = 8) ∧
 (Tryz.f253.ntmps = 19) ∧
 (Tryz.f254.ntmps = 87) ∧
 (Tryz.f255.ntmps = 49) ∧
 (Tryz.f256.ntmps = 56) ∧
 (Tryz.f257.ntmps = 65) ∧
 (Tryz.f258.ntmps = 57) ∧
 (Tryz.f259.ntmps = 32) ∧
 (Tryz.f260.ntmps = 133) ∧
 (Tryz.f261.ntmps = 17) ∧
 (Tryz.f262.ntmps = 84) ∧
 (Tryz.f263.ntmps = 168) ∧
 (Tryz.f264.ntmps = 19) ∧
 (Tryz.f268.ntmps = 73) ∧
 (Tryz.f269.ntmps = 11) ∧
 (Tryz.f270.ntmps = 11) ∧
 (Tryz.f271.ntmps = 16) ∧
 (Tryz.f272.ntmps = 16) ∧
 (Tryz.f274.ntmps = 6) ∧
 (Tryz.f275.ntmps = 81) ∧
 (Tryz.f276.ntmps = 21) ∧
 (Tryz.f277.ntmps = 14) ∧
 (Tryz.f278.ntmps = 14) ∧
 (Tryz.f279.ntmps = 40) ∧
 (Tryz.f280.ntmps = 76) ∧
 (Tryz.f281.ntmps = 7) ∧
 (Tryz.f282.ntmps = 33) ∧
 (Tryz.f283.ntmps = 15) ∧
 (Tryz.f284.ntmps = 36) ∧
 (Tryz.f285.ntmps = 6) ∧
 (Tryz.f286.ntmps = 172) ∧
 (Tryz.f287.ntmps = 18) ∧
 (Tryz.f288.ntmps = 7) ∧
 (Tryz.f289.ntmps = 39) ∧
 (Tryz.f290.ntmps = 28) ∧
 (Tryz.f291.ntmps = 5) ∧
 (Tryz.f292.ntmps = 94) :=
  ⟨rfl, rfl, rfl, rfl, rfl, rfl, rfl, rfl, rfl, rfl, rfl, rfl, rfl, rfl, rfl, rfl, rfl, rfl, rfl, rfl, rfl, rfl, rfl, rfl, rfl, rfl, rfl, rfl, rfl, rfl, rfl, rfl, rfl, rfl, rfl, rfl, rfl, rfl, rfl, rfl, rfl, rfl, rfl, rfl, rfl, rfl, rfl, rfl, rfl, rfl, rfl, rfl, rfl, rfl, rfl, rfl, rfl, rfl, rfl, rfl, rfl, rfl, rfl, rfl, rfl, rfl, rfl, rfl, rfl, rfl, rfl, rfl, rfl, rfl, rfl, rfl, rfl, rfl, rfl, rfl, rfl, rfl, rfl, rfl, rfl, rfl, rfl, rfl, rfl, rfl, rfl, rfl, rfl, rfl, rfl, rfl, rfl, rfl, rfl, rfl, rfl, rfl, rfl, rfl, rfl, rfl, rfl, rfl, rfl, rfl, rfl, rfl, rfl, rfl, rfl, rfl, rfl, rfl, rfl, rfl, rfl, rfl, rfl, rfl, rfl, rfl, rfl, rfl, rfl, rfl, rfl, rfl, rfl, rfl, rfl, rfl, rfl, rfl, rfl, rfl, rfl, rfl, rfl, rfl, rfl, rfl, rfl, rfl, rfl, rfl, rfl, rfl, rfl, rfl, rfl, rfl, rfl, rfl, rfl, rfl, rfl, rfl, rfl, rfl, rfl, rfl, rfl, rfl, rfl, rfl, rfl, rfl, rfl, rfl, rfl, rfl, rfl, rfl, rfl, rfl, rfl, rfl, rfl, rfl, rfl, rfl, rfl, rfl, rfl, rfl, rfl, rfl, rfl, rfl, rfl, rfl, rfl, rfl, rfl, rfl, rfl, rfl, rfl, rfl, rfl, rfl, rfl, rfl, rfl, rfl, rfl, rfl, rfl, rfl, rfl, rfl, rfl, rfl, rfl, rfl, rfl, rfl, rfl, rfl, rfl, rfl, rfl, rfl, rfl⟩
def wq :=
 PLift.up <|
 And.intro sa0.down <|
 And.intro sa1.down <|
 And.intro sa2.down <|
 And.intro sa3.down <|
 And.intro sa4.down <|
 And.intro sb0.down <|
 And.intro sb1.down <|
 And.intro sb2.down <|
 And.intro sb3.down <|
 And.intro TEP <|
 And.intro zsH <|
 And.intro tis <|
 And.intro ens nts
theorem vm {n : Nat} {r : Option Nat} {c : Code} {Q : XE → Fr → H → Prop} {f : Fr} {h : H} (hv : vc TE n r c Q f h) : awp TE n r c Q f h := zz mixed _ _ _ _ hv
end Go.Proofs.YtboolnpmlmgpkaaGreatDoor
