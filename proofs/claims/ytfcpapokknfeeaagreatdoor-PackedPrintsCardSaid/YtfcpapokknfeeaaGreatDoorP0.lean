/- Lemmas for the statement of this claim, part P0: they hold with no conditions but those that each one names. -/
import Derived.Test.YtfcpapokknfeeaaGreatDoorProg
import Derived.Test.YtfcpapokknfeeaaGreatDoorA8
import Derived.Lib.LaidTab
import Derived.Lib.ItoaNum
set_option linter.unusedVariables false
namespace Go.Proofs.YtfcpapokknfeeaaGreatDoor
open Go Go.Proofs Go.Abs
noncomputable abbrev P := Go.Proofs.Tryz.prog
def gxs : Nat → Option (Array Value → Prop)
 | 0 => some fun cs => cs = #[.int .i64 1, .int .i64 1]
 | 2 => some fun cs => cs = #[.iface 237 (.agg #[.pointer (some ⟨8, 61, none⟩)])]
 | 1 => some fun cs => cs = (Lib.pow10Tab.map fun z => Value.int .u64 z).toArray
 | 6 => some fun cs => ∃ te pe, cs = #[.iface te pe]
 | 7 => some fun cs => ∃ te pe, cs = #[.iface te pe]
 | _ => none
def gls : Nat → Option V
 | 0 => some (.agg [.int .i64 1, .int .i64 1])
 | _ => none
noncomputable def TE : E := { P := P, gl := gls, gx := gxs }
theorem TEP : TE.P = P := rfl
theorem gl0 : glv TE 0 = .ip (.agg [.int .i64 1, .int .i64 1]) := rfl
theorem ztb : TE.tl = [] := rfl
theorem mixed : TE.P.follows .mixedOrders = true := rfl
set_option maxRecDepth 100000 in
theorem tis : (ti P 0 = some { kind := K.other, size := 1, bytes := 0, zero := V.any }) ∧
 (ti P 1 = some { kind := K.func, size := 1, bytes := 8, zero := V.nilf }) ∧
 (ti P 2 = some { kind := K.int IntKind.i64, size := 1, bytes := 8, zero := V.int IntKind.i64 0 }) ∧
 (ti P 3 = some { kind := K.int IntKind.i64, size := 1, bytes := 8, zero := V.int IntKind.i64 0 }) ∧
 (ti P 4 = some { kind := K.bool, size := 1, bytes := 1, zero := V.bool false }) ∧
 (ti P 5 = some { kind := K.int IntKind.u8, size := 1, bytes := 1, zero := V.int IntKind.u8 0 }) ∧
 (ti P 6 = some { kind := K.int IntKind.u8, size := 1, bytes := 1, zero := V.int IntKind.u8 0 }) ∧
 (ti P 7 = some { kind := K.struct [(0, 2), (1, 3), (2, 4), (3, 6)], size := 4, bytes := 24, zero := V.agg [V.int IntKind.i64 0, V.int IntKind.i64 0, V.bool false, V.int IntKind.u8 0] }) ∧
 (ti P 8 = some { kind := K.struct [(0, 2), (1, 3), (2, 4), (3, 6)], size := 4, bytes := 24, zero := V.agg [V.int IntKind.i64 0, V.int IntKind.i64 0, V.bool false, V.int IntKind.u8 0] }) ∧
 (ti P 9 = some { kind := K.str, size := 1, bytes := 16, zero := V.str [] }) ∧
 (ti P 10 = some { kind := K.str, size := 1, bytes := 16, zero := V.str [] }) ∧
 (ti P 11 = some { kind := K.str, size := 1, bytes := 16, zero := V.str [] }) ∧
 (ti P 12 = some { kind := K.int IntKind.u64, size := 1, bytes := 8, zero := V.int IntKind.u64 0 }) ∧
 (ti P 13 = some { kind := K.struct [(0, 9), (1, 12)], size := 2, bytes := 24, zero := V.agg [V.str [], V.int IntKind.u64 0] }) ∧
 (ti P 14 = some { kind := K.struct [(0, 9), (1, 12)], size := 2, bytes := 24, zero := V.agg [V.str [], V.int IntKind.u64 0] }) ∧
 (ti P 15 = some { kind := K.ptr 269, size := 1, bytes := 8, zero := V.nilp }) ∧
 (ti P 16 = some { kind := K.ptr 272, size := 1, bytes := 8, zero := V.nilp }) ∧
 (ti P 17 = some { kind := K.ptr 279, size := 1, bytes := 8, zero := V.nilp }) ∧
 (ti P 18 = some { kind := K.struct [(0, 17)], size := 1, bytes := 8, zero := V.agg [V.nilp] }) ∧
 (ti P 19 = some { kind := K.struct [(0, 17)], size := 1, bytes := 8, zero := V.agg [V.nilp] }) ∧
 (ti P 20 = some { kind := K.iface, size := 1, bytes := 16, zero := V.nili }) ∧
 (ti P 21 = some { kind := K.int IntKind.i32, size := 1, bytes := 4, zero := V.int IntKind.i32 0 }) ∧
 (ti P 22 = some { kind := K.slice 3, size := 1, bytes := 24, zero := V.nils }) ∧
 (ti P 23 = some { kind := K.slice 66, size := 1, bytes := 24, zero := V.nils }) ∧
 (ti P 24 = some { kind := K.struct [(0, 3), (1, 22), (2, 22), (3, 23), (4, 22)], size := 5, bytes := 104, zero := V.agg [V.int IntKind.i64 0, V.nils, V.nils, V.nils, V.nils] }) ∧
 (ti P 25 = some { kind := K.struct [(0, 3), (1, 22), (2, 22), (3, 23), (4, 22)], size := 5, bytes := 104, zero := V.agg [V.int IntKind.i64 0, V.nils, V.nils, V.nils, V.nils] }) ∧
 (ti P 26 = some { kind := K.slice 9, size := 1, bytes := 24, zero := V.nils }) ∧
 (ti P 27 = some { kind := K.struct [(0, 25), (5, 26), (6, 26), (7, 26)], size := 8, bytes := 176, zero := V.agg [V.int IntKind.i64 0, V.nils, V.nils, V.nils, V.nils, V.nils, V.nils, V.nils] }) ∧
 (ti P 28 = some { kind := K.struct [(0, 25), (5, 26), (6, 26), (7, 26)], size := 8, bytes := 176, zero := V.agg [V.int IntKind.i64 0, V.nils, V.nils, V.nils, V.nils, V.nils, V.nils, V.nils] }) ∧
 (ti P 29 = some { kind := K.func, size := 1, bytes := 8, zero := V.nilf }) ∧
 (ti P 30 = some { kind := K.func, size := 1, bytes := 8, zero := V.nilf }) ∧
 (ti P 31 = some { kind := K.int IntKind.i64, size := 1, bytes := 8, zero := V.int IntKind.i64 0 }) ∧
 (ti P 32 = some { kind := K.other, size := 1, bytes := 0, zero := V.any }) ∧
 (ti P 33 = some { kind := K.func, size := 1, bytes := 8, zero := V.nilf }) ∧
 (ti P 34 = some { kind := K.func, size := 1, bytes := 8, zero := V.nilf }) ∧
 (ti P 35 = some { kind := K.func, size := 1, bytes := 8, zero := V.nilf }) ∧
 (ti P 36 = some { kind := K.struct [(0, 31), (1, 3), (2, 3)], size := 3, bytes := 24, zero := V.agg [V.int IntKind.i64 0, V.int IntKind.i64 0, V.int IntKind.i64 0] }) ∧
 (ti P 37 = some { kind := K.struct [(0, 31), (1, 3), (2, 3)], size := 3, bytes := 24, zero := V.agg [V.int IntKind.i64 0, V.int IntKind.i64 0, V.int IntKind.i64 0] }) ∧
 (ti P 38 = some { kind := K.other, size := 1, bytes := 0, zero := V.any }) ∧
 (ti P 39 = some { kind := K.func, size := 1, bytes := 8, zero := V.nilf }) ∧
 (ti P 40 = some { kind := K.func, size := 1, bytes := 8, zero := V.nilf }) ∧
 (ti P 41 = some { kind := K.arr 9 3 (some IntKind.i64), size := 9, bytes := 72, zero := V.agg [V.int IntKind.i64 0, V.int IntKind.i64 0, V.int IntKind.i64 0, V.int IntKind.i64 0, V.int IntKind.i64 0, V.int IntKind.i64 0, V.int IntKind.i64 0, V.int IntKind.i64 0, V.int IntKind.i64 0] }) ∧
 (ti P 42 = some { kind := K.other, size := 1, bytes := 0, zero := V.any }) ∧
 (ti P 43 = some { kind := K.func, size := 1, bytes := 8, zero := V.nilf }) ∧
 (ti P 44 = some { kind := K.arr 5 26 none, size := 5, bytes := 120, zero := V.agg [V.nils, V.nils, V.nils, V.nils, V.nils] }) ∧
 (ti P 45 = some { kind := K.other, size := 1, bytes := 0, zero := V.any }) ∧
 (ti P 46 = some { kind := K.func, size := 1, bytes := 8, zero := V.nilf }) ∧
 (ti P 47 = some { kind := K.arr 5 3 (some IntKind.i64), size := 5, bytes := 40, zero := V.agg [V.int IntKind.i64 0, V.int IntKind.i64 0, V.int IntKind.i64 0, V.int IntKind.i64 0, V.int IntKind.i64 0] }) ∧
 (ti P 48 = some { kind := K.func, size := 1, bytes := 8, zero := V.nilf }) ∧
 (ti P 49 = some { kind := K.func, size := 1, bytes := 8, zero := V.nilf }) ∧
 (ti P 50 = some { kind := K.func, size := 1, bytes := 8, zero := V.nilf }) ∧
 (ti P 51 = some { kind := K.other, size := 1, bytes := 0, zero := V.any }) ∧
 (ti P 52 = some { kind := K.func, size := 1, bytes := 8, zero := V.nilf }) ∧
 (ti P 53 = some { kind := K.ptr 59, size := 1, bytes := 8, zero := V.nilp }) ∧
 (ti P 54 = some { kind := K.ptr 57, size := 1, bytes := 8, zero := V.nilp }) ∧
 (ti P 55 = some { kind := K.slice 5, size := 1, bytes := 24, zero := V.nils }) ∧
 (ti P 56 = some { kind := K.struct [(0, 54), (1, 55)], size := 2, bytes := 32, zero := V.agg [V.nilp, V.nils] }) ∧
 (ti P 57 = some { kind := K.struct [(0, 54), (1, 55)], size := 2, bytes := 32, zero := V.agg [V.nilp, V.nils] }) ∧
 (ti P 58 = some { kind := K.struct [(0, 57)], size := 2, bytes := 32, zero := V.agg [V.nilp, V.nils] }) ∧
 (ti P 59 = some { kind := K.struct [(0, 57)], size := 2, bytes := 32, zero := V.agg [V.nilp, V.nils] }) ∧
 (ti P 60 = some { kind := K.iface, size := 1, bytes := 16, zero := V.nili }) ∧
 (ti P 61 = some { kind := K.iface, size := 1, bytes := 16, zero := V.nili }) ∧
 (ti P 62 = some { kind := K.other, size := 1, bytes := 0, zero := V.any }) ∧
 (ti P 63 = some { kind := K.func, size := 1, bytes := 8, zero := V.nilf }) ∧
 (ti P 64 = some { kind := K.func, size := 1, bytes := 8, zero := V.nilf }) ∧
 (ti P 65 = some { kind := K.slice 22, size := 1, bytes := 24, zero := V.nils }) ∧
 (ti P 66 = some { kind := K.arr 2 3 (some IntKind.i64), size := 2, bytes := 16, zero := V.agg [V.int IntKind.i64 0, V.int IntKind.i64 0] }) ∧
 (ti P 67 = some { kind := K.func, size := 1, bytes := 8, zero := V.nilf }) ∧
 (ti P 68 = some { kind := K.func, size := 1, bytes := 8, zero := V.nilf }) ∧
 (ti P 69 = some { kind := K.func, size := 1, bytes := 8, zero := V.nilf }) ∧
 (ti P 70 = some { kind := K.func, size := 1, bytes := 8, zero := V.nilf }) ∧
 (ti P 71 = some { kind := K.slice 26, size := 1, bytes := 24, zero := V.nils }) ∧
 (ti P 72 = some { kind := K.func, size := 1, bytes := 8, zero := V.nilf }) ∧
 (ti P 73 = some { kind := K.other, size := 1, bytes := 0, zero := V.any }) ∧
 (ti P 74 = some { kind := K.func, size := 1, bytes := 8, zero := V.nilf }) ∧
 (ti P 75 = some { kind := K.func, size := 1, bytes := 8, zero := V.nilf }) ∧
 (ti P 76 = some { kind := K.func, size := 1, bytes := 8, zero := V.nilf }) ∧
 (ti P 77 = some { kind := K.arr 3 3 (some IntKind.i64), size := 3, bytes := 24, zero := V.agg [V.int IntKind.i64 0, V.int IntKind.i64 0, V.int IntKind.i64 0] }) ∧
 (ti P 78 = some { kind := K.func, size := 1, bytes := 8, zero := V.nilf }) ∧
 (ti P 79 = some { kind := K.func, size := 1, bytes := 8, zero := V.nilf }) ∧
 (ti P 80 = some { kind := K.other, size := 1, bytes := 0, zero := V.any }) ∧
 (ti P 81 = some { kind := K.func, size := 1, bytes := 8, zero := V.nilf }) ∧
 (ti P 82 = some { kind := K.func, size := 1, bytes := 8, zero := V.nilf }) ∧
 (ti P 83 = some { kind := K.func, size := 1, bytes := 8, zero := V.nilf }) ∧
 (ti P 84 = some { kind := K.func, size := 1, bytes := 8, zero := V.nilf }) ∧
 (ti P 85 = some { kind := K.struct [(0, 3), (1, 31)], size := 2, bytes := 16, zero := V.agg [V.int IntKind.i64 0, V.int IntKind.i64 0] }) ∧
 (ti P 86 = some { kind := K.struct [(0, 3), (1, 31)], size := 2, bytes := 16, zero := V.agg [V.int IntKind.i64 0, V.int IntKind.i64 0] }) ∧
 (ti P 87 = some { kind := K.other, size := 1, bytes := 0, zero := V.any }) ∧
 (ti P 88 = some { kind := K.func, size := 1, bytes := 8, zero := V.nilf }) ∧
 (ti P 89 = some { kind := K.func, size := 1, bytes := 8, zero := V.nilf }) ∧
 (ti P 90 = some { kind := K.ptr 92, size := 1, bytes := 8, zero := V.nilp }) ∧
 (ti P 91 = some { kind := K.struct [(0, 9), (1, 3)], size := 2, bytes := 24, zero := V.agg [V.str [], V.int IntKind.i64 0] }) ∧
 (ti P 92 = some { kind := K.struct [(0, 9), (1, 3)], size := 2, bytes := 24, zero := V.agg [V.str [], V.int IntKind.i64 0] }) ∧
 (ti P 93 = some { kind := K.func, size := 1, bytes := 8, zero := V.nilf }) ∧
 (ti P 94 = some { kind := K.func, size := 1, bytes := 8, zero := V.nilf }) ∧
 (ti P 95 = some { kind := K.func, size := 1, bytes := 8, zero := V.nilf }) ∧
 (ti P 96 = some { kind := K.func, size := 1, bytes := 8, zero := V.nilf }) ∧
 (ti P 97 = some { kind := K.ptr 37, size := 1, bytes := 8, zero := V.nilp }) ∧
 (ti P 98 = some { kind := K.ptr 105, size := 1, bytes := 8, zero := V.nilp }) ∧
 (ti P 99 = some { kind := K.struct [(0, 9), (1, 3)], size := 2, bytes := 24, zero := V.agg [V.str [], V.int IntKind.i64 0] }) ∧
 (ti P 100 = some { kind := K.struct [(0, 9), (1, 3)], size := 2, bytes := 24, zero := V.agg [V.str [], V.int IntKind.i64 0] }) ∧
 (ti P 101 = some { kind := K.map 3 3, size := 1, bytes := 8, zero := V.nilm }) ∧
 (ti P 102 = some { kind := K.slice 111, size := 1, bytes := 24, zero := V.nils }) ∧
 (ti P 103 = some { kind := K.slice 114, size := 1, bytes := 24, zero := V.nils }) ∧
 (ti P 104 = some { kind := K.struct [(0, 100), (2, 3), (3, 101), (4, 22), (5, 22), (6, 102), (7, 22), (8, 102), (9, 103)], size := 10, bytes := 184, zero := V.agg [V.str [], V.int IntKind.i64 0, V.int IntKind.i64 0, V.nilm, V.nils, V.nils, V.nils, V.nils, V.nils, V.nils] }) ∧
 (ti P 105 = some { kind := K.struct [(0, 100), (2, 3), (3, 101), (4, 22), (5, 22), (6, 102), (7, 22), (8, 102), (9, 103)], size := 10, bytes := 184, zero := V.agg [V.str [], V.int IntKind.i64 0, V.int IntKind.i64 0, V.nilm, V.nils, V.nils, V.nils, V.nils, V.nils, V.nils] }) ∧
 (ti P 106 = some { kind := K.func, size := 1, bytes := 8, zero := V.nilf }) ∧
 (ti P 107 = some { kind := K.arr 4 1 none, size := 4, bytes := 32, zero := V.agg [V.nilf, V.nilf, V.nilf, V.nilf] }) ∧
 (ti P 108 = some { kind := K.arr 4 3 (some IntKind.i64), size := 4, bytes := 32, zero := V.agg [V.int IntKind.i64 0, V.int IntKind.i64 0, V.int IntKind.i64 0, V.int IntKind.i64 0] }) ∧
 (ti P 109 = some { kind := K.func, size := 1, bytes := 8, zero := V.nilf }) ∧
 (ti P 110 = some { kind := K.struct [(0, 3), (1, 3)], size := 2, bytes := 16, zero := V.agg [V.int IntKind.i64 0, V.int IntKind.i64 0] }) ∧
 (ti P 111 = some { kind := K.struct [(0, 3), (1, 3)], size := 2, bytes := 16, zero := V.agg [V.int IntKind.i64 0, V.int IntKind.i64 0] }) ∧
 (ti P 112 = some { kind := K.arr 2 111 none, size := 4, bytes := 32, zero := V.agg [V.int IntKind.i64 0, V.int IntKind.i64 0, V.int IntKind.i64 0, V.int IntKind.i64 0] }) ∧
 (ti P 113 = some { kind := K.struct [(0, 3), (1, 3), (2, 112)], size := 6, bytes := 48, zero := V.agg [V.int IntKind.i64 0, V.int IntKind.i64 0, V.int IntKind.i64 0, V.int IntKind.i64 0, V.int IntKind.i64 0, V.int IntKind.i64 0] }) ∧
 (ti P 114 = some { kind := K.struct [(0, 3), (1, 3), (2, 112)], size := 6, bytes := 48, zero := V.agg [V.int IntKind.i64 0, V.int IntKind.i64 0, V.int IntKind.i64 0, V.int IntKind.i64 0, V.int IntKind.i64 0, V.int IntKind.i64 0] }) ∧
 (ti P 115 = some { kind := K.func, size := 1, bytes := 8, zero := V.nilf }) ∧
 (ti P 116 = some { kind := K.func, size := 1, bytes := 8, zero := V.nilf }) ∧
 (ti P 117 = some { kind := K.ptr 100, size := 1, bytes := 8, zero := V.nilp }) ∧
 (ti P 118 = some { kind := K.func, size := 1, bytes := 8, zero := V.nilf }) ∧
 (ti P 119 = some { kind := K.ptr 44, size := 1, bytes := 8, zero := V.nilp }) ∧
 (ti P 120 = some { kind := K.func, size := 1, bytes := 8, zero := V.nilf }) ∧
 (ti P 121 = some { kind := K.slice 4, size := 1, bytes := 24, zero := V.nils }) ∧
 (ti P 122 = some { kind := K.func, size := 1, bytes := 8, zero := V.nilf }) ∧
 (ti P 123 = some { kind := K.int IntKind.u64, size := 1, bytes := 8, zero := V.int IntKind.u64 0 }) ∧
 (ti P 124 = some { kind := K.func, size := 1, bytes := 8, zero := V.nilf }) ∧
 (ti P 125 = some { kind := K.func, size := 1, bytes := 8, zero := V.nilf }) ∧
 (ti P 126 = some { kind := K.ptr 5, size := 1, bytes := 8, zero := V.nilp }) ∧
 (ti P 127 = some { kind := K.func, size := 1, bytes := 8, zero := V.nilf }) ∧
 (ti P 128 = some { kind := K.func, size := 1, bytes := 8, zero := V.nilf }) ∧
 (ti P 129 = some { kind := K.ptr 133, size := 1, bytes := 8, zero := V.nilp }) ∧
 (ti P 130 = some { kind := K.func, size := 1, bytes := 8, zero := V.nilf }) ∧
 (ti P 131 = some { kind := K.map 66 3, size := 1, bytes := 8, zero := V.nilm }) ∧
 (ti P 132 = some { kind := K.struct [(0, 25), (5, 131), (6, 22)], size := 7, bytes := 136, zero := V.agg [V.int IntKind.i64 0, V.nils, V.nils, V.nils, V.nils, V.nilm, V.nils] }) ∧
 (ti P 133 = some { kind := K.struct [(0, 25), (5, 131), (6, 22)], size := 7, bytes := 136, zero := V.agg [V.int IntKind.i64 0, V.nils, V.nils, V.nils, V.nils, V.nilm, V.nils] }) ∧
 (ti P 134 = some { kind := K.func, size := 1, bytes := 8, zero := V.nilf }) ∧
 (ti P 135 = some { kind := K.func, size := 1, bytes := 8, zero := V.nilf }) ∧
 (ti P 136 = some { kind := K.func, size := 1, bytes := 8, zero := V.nilf }) ∧
 (ti P 137 = some { kind := K.func, size := 1, bytes := 8, zero := V.nilf }) ∧
 (ti P 138 = some { kind := K.func, size := 1, bytes := 8, zero := V.nilf }) ∧
 (ti P 139 = some { kind := K.struct [(0, 23), (1, 3)], size := 2, bytes := 32, zero := V.agg [V.nils, V.int IntKind.i64 0] }) ∧
 (ti P 140 = some { kind := K.struct [(0, 23), (1, 3)], size := 2, bytes := 32, zero := V.agg [V.nils, V.int IntKind.i64 0] }) ∧
 (ti P 141 = some { kind := K.func, size := 1, bytes := 8, zero := V.nilf }) ∧
 (ti P 142 = some { kind := K.func, size := 1, bytes := 8, zero := V.nilf }) ∧
 (ti P 143 = some { kind := K.func, size := 1, bytes := 8, zero := V.nilf }) ∧
 (ti P 144 = some { kind := K.other, size := 1, bytes := 0, zero := V.any }) ∧
 (ti P 145 = some { kind := K.func, size := 1, bytes := 8, zero := V.nilf }) ∧
 (ti P 146 = some { kind := K.other, size := 1, bytes := 0, zero := V.any }) ∧
 (ti P 147 = some { kind := K.func, size := 1, bytes := 8, zero := V.nilf }) ∧
 (ti P 148 = some { kind := K.func, size := 1, bytes := 8, zero := V.nilf }) ∧
 (ti P 149 = some { kind := K.func, size := 1, bytes := 8, zero := V.nilf }) ∧
 (ti P 150 = some { kind := K.func, size := 1, bytes := 8, zero := V.nilf }) ∧
 (ti P 151 = some { kind := K.func, size := 1, bytes := 8, zero := V.nilf }) ∧
 (ti P 152 = some { kind := K.struct [(0, 3), (1, 31)], size := 2, bytes := 16, zero := V.agg [V.int IntKind.i64 0, V.int IntKind.i64 0] }) ∧
 (ti P 153 = some { kind := K.struct [(0, 3), (1, 31)], size := 2, bytes := 16, zero := V.agg [V.int IntKind.i64 0, V.int IntKind.i64 0] }) ∧
 (ti P 154 = some { kind := K.other, size := 1, bytes := 0, zero := V.any }) ∧
 (ti P 155 = some { kind := K.func, size := 1, bytes := 8, zero := V.nilf }) ∧
 (ti P 156 = some { kind := K.func, size := 1, bytes := 8, zero := V.nilf }) ∧
 (ti P 157 = some { kind := K.func, size := 1, bytes := 8, zero := V.nilf }) ∧
 (ti P 158 = some { kind := K.other, size := 1, bytes := 0, zero := V.any }) ∧
 (ti P 159 = some { kind := K.func, size := 1, bytes := 8, zero := V.nilf }) ∧
 (ti P 160 = some { kind := K.func, size := 1, bytes := 8, zero := V.nilf }) ∧
 (ti P 161 = some { kind := K.func, size := 1, bytes := 8, zero := V.nilf }) ∧
 (ti P 162 = some { kind := K.func, size := 1, bytes := 8, zero := V.nilf }) ∧
 (ti P 163 = some { kind := K.func, size := 1, bytes := 8, zero := V.nilf }) ∧
 (ti P 164 = some { kind := K.func, size := 1, bytes := 8, zero := V.nilf }) ∧
 (ti P 165 = some { kind := K.other, size := 1, bytes := 0, zero := V.any }) ∧
 (ti P 166 = some { kind := K.func, size := 1, bytes := 8, zero := V.nilf }) ∧
 (ti P 167 = some { kind := K.func, size := 1, bytes := 8, zero := V.nilf }) ∧
 (ti P 168 = some { kind := K.func, size := 1, bytes := 8, zero := V.nilf }) ∧
 (ti P 169 = some { kind := K.func, size := 1, bytes := 8, zero := V.nilf }) ∧
 (ti P 170 = some { kind := K.func, size := 1, bytes := 8, zero := V.nilf }) ∧
 (ti P 171 = some { kind := K.func, size := 1, bytes := 8, zero := V.nilf }) ∧
 (ti P 172 = some { kind := K.other, size := 1, bytes := 8, zero := V.nilp }) ∧
 (ti P 173 = some { kind := K.func, size := 1, bytes := 8, zero := V.nilf }) ∧
 (ti P 174 = some { kind := K.func, size := 1, bytes := 8, zero := V.nilf }) ∧
 (ti P 175 = some { kind := K.func, size := 1, bytes := 8, zero := V.nilf }) ∧
 (ti P 176 = some { kind := K.func, size := 1, bytes := 8, zero := V.nilf }) ∧
 (ti P 177 = some { kind := K.func, size := 1, bytes := 8, zero := V.nilf }) ∧
 (ti P 178 = some { kind := K.arr 2 3 (some IntKind.i64), size := 2, bytes := 16, zero := V.agg [V.int IntKind.i64 0, V.int IntKind.i64 0] }) ∧
 (ti P 179 = some { kind := K.func, size := 1, bytes := 8, zero := V.nilf }) ∧
 (ti P 180 = some { kind := K.func, size := 1, bytes := 8, zero := V.nilf }) ∧
 (ti P 181 = some { kind := K.func, size := 1, bytes := 8, zero := V.nilf }) ∧
 (ti P 182 = some { kind := K.ptr 184, size := 1, bytes := 8, zero := V.nilp }) ∧
 (ti P 183 = some { kind := K.struct [(0, 61)], size := 1, bytes := 16, zero := V.agg [V.nili] }) ∧
 (ti P 184 = some { kind := K.struct [(0, 61)], size := 1, bytes := 16, zero := V.agg [V.nili] }) ∧
 (ti P 185 = some { kind := K.func, size := 1, bytes := 8, zero := V.nilf }) ∧
 (ti P 186 = some { kind := K.map 9 4, size := 1, bytes := 8, zero := V.nilm }) ∧
 (ti P 187 = some { kind := K.func, size := 1, bytes := 8, zero := V.nilf }) ∧
 (ti P 188 = some { kind := K.func, size := 1, bytes := 8, zero := V.nilf }) ∧
 (ti P 189 = some { kind := K.func, size := 1, bytes := 8, zero := V.nilf }) ∧
 (ti P 190 = some { kind := K.map 3 4, size := 1, bytes := 8, zero := V.nilm }) ∧
 (ti P 191 = some { kind := K.str, size := 1, bytes := 16, zero := V.str [] }) ∧
 (ti P 192 = some { kind := K.func, size := 1, bytes := 8, zero := V.nilf }) ∧
 (ti P 193 = some { kind := K.func, size := 1, bytes := 8, zero := V.nilf }) ∧
 (ti P 194 = some { kind := K.func, size := 1, bytes := 8, zero := V.nilf }) ∧
 (ti P 195 = some { kind := K.func, size := 1, bytes := 8, zero := V.nilf }) ∧
 (ti P 196 = some { kind := K.func, size := 1, bytes := 8, zero := V.nilf }) ∧
 (ti P 198 = some { kind := K.int IntKind.u64, size := 1, bytes := 8, zero := V.int IntKind.u64 0 }) ∧
 (ti P 199 = some { kind := K.func, size := 1, bytes := 8, zero := V.nilf }) ∧
 (ti P 200 = some { kind := K.func, size := 1, bytes := 8, zero := V.nilf }) ∧
 (ti P 201 = some { kind := K.other, size := 1, bytes := 0, zero := V.any }) ∧
 (ti P 202 = some { kind := K.func, size := 1, bytes := 8, zero := V.nilf }) ∧
 (ti P 203 = some { kind := K.other, size := 1, bytes := 0, zero := V.any }) ∧
 (ti P 204 = some { kind := K.func, size := 1, bytes := 8, zero := V.nilf }) ∧
 (ti P 205 = some { kind := K.func, size := 1, bytes := 8, zero := V.nilf }) ∧
 (ti P 206 = some { kind := K.func, size := 1, bytes := 8, zero := V.nilf }) ∧
 (ti P 207 = some { kind := K.func, size := 1, bytes := 8, zero := V.nilf }) ∧
 (ti P 208 = some { kind := K.ptr 31, size := 1, bytes := 8, zero := V.nilp }) ∧
 (ti P 209 = some { kind := K.func, size := 1, bytes := 8, zero := V.nilf }) ∧
 (ti P 210 = some { kind := K.func, size := 1, bytes := 8, zero := V.nilf }) ∧
 (ti P 212 = some { kind := K.func, size := 1, bytes := 8, zero := V.nilf }) ∧
 (ti P 215 = some { kind := K.int IntKind.u32, size := 1, bytes := 4, zero := V.int IntKind.u32 0 }) ∧
 (ti P 222 = some { kind := K.struct [(0, 17), (1, 172), (2, 220)], size := 3, bytes := 24, zero := V.agg [V.nilp, V.nilp, V.int IntKind.u64 0] }) ∧
 (ti P 224 = some { kind := K.iface, size := 1, bytes := 16, zero := V.nili }) ∧
 (ti P 225 = some { kind := K.iface, size := 1, bytes := 16, zero := V.nili }) ∧
 (ti P 227 = some { kind := K.int IntKind.u8, size := 1, bytes := 1, zero := V.int IntKind.u8 0 }) ∧
 (ti P 231 = some { kind := K.func, size := 1, bytes := 8, zero := V.nilf }) ∧
 (ti P 234 = some { kind := K.other, size := 1, bytes := 0, zero := V.any }) ∧
 (ti P 236 = some { kind := K.struct [(0, 17)], size := 1, bytes := 8, zero := V.agg [V.nilp] }) ∧
 (ti P 237 = some { kind := K.struct [(0, 17)], size := 1, bytes := 8, zero := V.agg [V.nilp] }) ∧
 (ti P 242 = some { kind := K.iface, size := 1, bytes := 16, zero := V.nili }) ∧
 (ti P 243 = some { kind := K.other, size := 1, bytes := 0, zero := V.any }) ∧
 (ti P 245 = some { kind := K.iface, size := 1, bytes := 16, zero := V.nili }) ∧
 (ti P 247 = some { kind := K.iface, size := 1, bytes := 16, zero := V.nili }) ∧
 (ti P 248 = some { kind := K.slice 61, size := 1, bytes := 24, zero := V.nils }) ∧
 (ti P 250 = some { kind := K.int IntKind.i64, size := 1, bytes := 8, zero := V.int IntKind.i64 0 }) ∧
 (ti P 251 = some { kind := K.other, size := 1, bytes := 0, zero := V.any }) ∧
 (ti P 253 = some { kind := K.ptr 262, size := 1, bytes := 8, zero := V.nilp }) ∧
 (ti P 258 = some { kind := K.other, size := 1, bytes := 0, zero := V.any }) ∧
 (ti P 259 = some { kind := K.func, size := 1, bytes := 8, zero := V.nilf }) ∧
 (ti P 262 = some { kind := K.struct [(0, 9), (1, 9), (2, 61)], size := 3, bytes := 48, zero := V.agg [V.str [], V.str [], V.nili] }) ∧
 (ti P 265 = some { kind := K.ptr 267, size := 1, bytes := 8, zero := V.nilp }) ∧
 (ti P 267 = some { kind := K.struct [(0, 9)], size := 1, bytes := 16, zero := V.agg [V.str []] }) ∧
 (ti P 274 = some { kind := K.int IntKind.u8, size := 1, bytes := 1, zero := V.int IntKind.u8 0 }) ∧
 (ti P 276 = some { kind := K.int IntKind.i32, size := 1, bytes := 4, zero := V.int IntKind.i32 0 }) ∧
 (ti P 278 = some { kind := K.struct [(0, 12), (1, 12), (2, 215), (3, 274), (4, 5), (5, 5), (6, 227), (7, 275), (8, 126), (9, 276), (10, 277)], size := 11, bytes := 48, zero := V.agg [V.int IntKind.u64 0, V.int IntKind.u64 0, V.int IntKind.u32 0, V.int IntKind.u8 0, V.int IntKind.u8 0, V.int IntKind.u8 0, V.int IntKind.u8 0, V.nilf, V.nilp, V.int IntKind.i32 0, V.int IntKind.i32 0] }) ∧
 (ti P 282 = some { kind := K.struct [(0, 9), (1, 227)], size := 2, bytes := 24, zero := V.agg [V.str [], V.int IntKind.u8 0] }) ∧
 (ti P 286 = some { kind := K.int IntKind.u16, size := 1, bytes := 2, zero := V.int IntKind.u16 0 }) ∧
 (ti P 290 = some { kind := K.int IntKind.i32, size := 1, bytes := 4, zero := V.int IntKind.i32 0 }) :=
  ⟨rfl, rfl, rfl, rfl, rfl, rfl, rfl, rfl, rfl, rfl, rfl, rfl, rfl, rfl, rfl, rfl, rfl, rfl, rfl, rfl, rfl, rfl, rfl, rfl, rfl, rfl, rfl, rfl, rfl, rfl, rfl, rfl, rfl, rfl, rfl, rfl, rfl, rfl, rfl, rfl, rfl, rfl, rfl, rfl, rfl, rfl, rfl, rfl, rfl, rfl, rfl, rfl, rfl, rfl, rfl, rfl, rfl, rfl, rfl, rfl, rfl, rfl, rfl, rfl, rfl, rfl, rfl, rfl, rfl, rfl, rfl, rfl, rfl, rfl, rfl, rfl, rfl, rfl, rfl, rfl, rfl, rfl, rfl, rfl, rfl, rfl, rfl, rfl, rfl, rfl, rfl, rfl, rfl, rfl, rfl, rfl, rfl, rfl, rfl, rfl, rfl, rfl, rfl, rfl, rfl, rfl, rfl, rfl, rfl, rfl, rfl, rfl, rfl, rfl, rfl, rfl, rfl, rfl, rfl, rfl, rfl, rfl, rfl, rfl, rfl, rfl, rfl, rfl, rfl, rfl, rfl, rfl, rfl, rfl, rfl, rfl, rfl, rfl, rfl, rfl, rfl, rfl, rfl, rfl, rfl, rfl, rfl, rfl, rfl, rfl, rfl, rfl, rfl, rfl, rfl, rfl, rfl, rfl, rfl, rfl, rfl, rfl, rfl, rfl, rfl, rfl, rfl, rfl, rfl, rfl, rfl, rfl, rfl, rfl, rfl, rfl, rfl, rfl, rfl, rfl, rfl, rfl, rfl, rfl, rfl, rfl, rfl, rfl, rfl, rfl, rfl, rfl, rfl, rfl, rfl, rfl, rfl, rfl, rfl, rfl, rfl, rfl, rfl, rfl, rfl, rfl, rfl, rfl, rfl, rfl, rfl, rfl, rfl, rfl, rfl, rfl, rfl, rfl, rfl, rfl, rfl, rfl, rfl, rfl, rfl, rfl, rfl, rfl, rfl, rfl, rfl, rfl, rfl, rfl, rfl, rfl, rfl, rfl, rfl⟩
set_option maxRecDepth 100000 in
theorem ens : (zf P 3 = true) ∧
 (zf P 4 = true) ∧
 (zf P 6 = true) ∧
 (zf P 7 = true) ∧
 (zf P 8 = true) ∧
 (zf P 9 = true) ∧
 (zf P 10 = true) ∧
 (zf P 11 = true) ∧
 (zf P 12 = true) ∧
 (zf P 13 = true) ∧
 (zf P 14 = true) ∧
 (zf P 15 = true) ∧
 (zf P 16 = true) ∧
 (zf P 17 = true) ∧
 (zf P 18 = true) ∧
 (zf P 19 = true) ∧
 (zf P 20 = true) ∧
 (zf P 21 = true) ∧
 (zf P 22 = true) ∧
 (zf P 23 = true) ∧
 (zf P 24 = true) ∧
 (zf P 25 = true) ∧
 (zf P 26 = true) ∧
 (zf P 27 = true) ∧
 (zf P 28 = true) ∧
 (zf P 29 = true) ∧
 (zf P 30 = true) ∧
 (zf P 31 = true) ∧
 (zf P 32 = true) ∧
 (zf P 33 = true) ∧
 (zf P 34 = true) ∧
 (zf P 35 = true) ∧
 (zf P 36 = true) ∧
 (zf P 37 = true) ∧
 (zf P 38 = true) ∧
 (zf P 39 = true) ∧
 (zf P 40 = true) ∧
 (zf P 41 = true) ∧
 (zf P 42 = true) ∧
 (zf P 43 = true) ∧
 (zf P 44 = true) ∧
 (zf P 45 = true) ∧
 (zf P 46 = true) ∧
 (zf P 47 = true) ∧
 (zf P 48 = true) ∧
 (zf P 49 = true) ∧
 (zf P 50 = true) ∧
 (zf P 51 = true) ∧
 (zf P 52 = true) ∧
 (zf P 53 = true) ∧
 (zf P 54 = true) ∧
 (zf P 55 = true) ∧
 (zf P 56 = true) ∧
 (zf P 57 = true) ∧
 (zf P 58 = true) ∧
 (zf P 59 = true) ∧
 (zf P 60 = true) ∧
 (zf P 61 = true) ∧
 (zf P 62 = true) ∧
 (zf P 63 = true) ∧
 (zf P 64 = true) ∧
 (zf P 65 = true) ∧
 (zf P 66 = true) ∧
 (zf P 67 = true) ∧
 (zf P 68 = true) ∧
 (zf P 69 = true) ∧
 (zf P 70 = true) ∧
 (zf P 71 = true) ∧
 (zf P 72 = true) ∧
 (zf P 73 = true) ∧
 (zf P 74 = true) ∧
 (zf P 75 = true) ∧
 (zf P 76 = true) ∧
 (zf P 77 = true) ∧
 (zf P 78 = true) ∧
 (zf P 79 = true) ∧
 (zf P 80 = true) ∧
 (zf P 81 = true) ∧
 (zf P 82 = true) ∧
 (zf P 83 = true) ∧
 (zf P 84 = true) ∧
 (zf P 85 = true) ∧
 (zf P 86 = true) ∧
 (zf P 87 = true) ∧
 (zf P 88 = true) ∧
 (zf P 89 = true) ∧
 (zf P 90 = true) ∧
 (zf P 91 = true) ∧
 (zf P 92 = true) ∧
 (zf P 93 = true) ∧
 (zf P 94 = true) ∧
 (zf P 95 = true) ∧
 (zf P 96 = true) ∧
 (zf P 97 = true) ∧
 (zf P 98 = true) ∧
 (zf P 99 = true) ∧
 (zf P 100 = true) ∧
 (zf P 101 = true) ∧
 (zf P 102 = true) ∧
 (zf P 103 = true) ∧
 (zf P 104 = true) ∧
 (zf P 105 = true) ∧
 (zf P 106 = true) ∧
 (zf P 107 = true) ∧
 (zf P 108 = true) ∧
 (zf P 109 = true) ∧
 (zf P 110 = true) ∧
 (zf P 111 = true) ∧
 (zf P 112 = true) ∧
 (zf P 113 = true) ∧
 (zf P 114 = true) ∧
 (zf P 115 = true) ∧
 (zf P 116 = true) ∧
 (zf P 117 = true) ∧
 (zf P 118 = true) ∧
 (zf P 119 = true) ∧
 (zf P 121 = true) ∧
 (zf P 122 = true) ∧
 (zf P 123 = true) ∧
 (zf P 124 = true) ∧
 (zf P 125 = true) ∧
 (zf P 126 = true) ∧
 (zf P 127 = true) ∧
 (zf P 128 = true) ∧
 (zf P 129 = true) ∧
 (zf P 130 = true) ∧
 (zf P 131 = true) ∧
 (zf P 132 = true) ∧
 (zf P 133 = true) ∧
 (zf P 134 = true) ∧
 (zf P 135 = true) ∧
 (zf P 136 = true) ∧
 (zf P 137 = true) ∧
 (zf P 138 = true) ∧
 (zf P 139 = true) ∧
 (zf P 140 = true) ∧
 (zf P 141 = true) ∧
 (zf P 142 = true) ∧
 (zf P 143 = true) ∧
 (zf P 144 = true) ∧
 (zf P 145 = true) ∧
 (zf P 146 = true) ∧
 (zf P 147 = true) ∧
 (zf P 148 = true) ∧
 (zf P 149 = true) ∧
 (zf P 150 = true) ∧
 (zf P 151 = true) ∧
 (zf P 152 = true) ∧
 (zf P 153 = true) ∧
 (zf P 154 = true) ∧
 (zf P 155 = true) ∧
 (zf P 156 = true) ∧
 (zf P 157 = true) ∧
 (zf P 158 = true) ∧
 (zf P 159 = true) ∧
 (zf P 160 = true) ∧
 (zf P 161 = true) ∧
 (zf P 162 = true) ∧
 (zf P 163 = true) ∧
 (zf P 164 = true) ∧
 (zf P 165 = true) ∧
 (zf P 166 = true) ∧
 (zf P 168 = true) ∧
 (zf P 169 = true) ∧
 (zf P 170 = true) ∧
 (zf P 171 = true) ∧
 (zf P 172 = true) ∧
 (zf P 173 = true) ∧
 (zf P 174 = true) ∧
 (zf P 175 = true) ∧
 (zf P 176 = true) ∧
 (zf P 178 = true) ∧
 (zf P 180 = true) ∧
 (zf P 181 = true) ∧
 (zf P 182 = true) ∧
 (zf P 186 = true) ∧
 (zf P 187 = true) ∧
 (zf P 188 = true) ∧
 (zf P 190 = true) ∧
 (zf P 191 = true) ∧
 (zf P 192 = true) ∧
 (zf P 193 = true) ∧
 (zf P 194 = true) ∧
 (zf P 195 = true) ∧
 (zf P 199 = true) ∧
 (zf P 200 = true) ∧
 (zf P 201 = true) ∧
 (zf P 202 = true) ∧
 (zf P 203 = true) ∧
 (zf P 204 = true) ∧
 (zf P 205 = true) ∧
 (zf P 206 = true) ∧
 (zf P 207 = true) ∧
 (zf P 208 = true) ∧
 (zf P 209 = true) :=
  ⟨rfl, rfl, rfl, rfl, rfl, rfl, rfl, rfl, rfl, rfl, rfl, rfl, rfl, rfl, rfl, rfl, rfl, rfl, rfl, rfl, rfl, rfl, rfl, rfl, rfl, rfl, rfl, rfl, rfl, rfl, rfl, rfl, rfl, rfl, rfl, rfl, rfl, rfl, rfl, rfl, rfl, rfl, rfl, rfl, rfl, rfl, rfl, rfl, rfl, rfl, rfl, rfl, rfl, rfl, rfl, rfl, rfl, rfl, rfl, rfl, rfl, rfl, rfl, rfl, rfl, rfl, rfl, rfl, rfl, rfl, rfl, rfl, rfl, rfl, rfl, rfl, rfl, rfl, rfl, rfl, rfl, rfl, rfl, rfl, rfl, rfl, rfl, rfl, rfl, rfl, rfl, rfl, rfl, rfl, rfl, rfl, rfl, rfl, rfl, rfl, rfl, rfl, rfl, rfl, rfl, rfl, rfl, rfl, rfl, rfl, rfl, rfl, rfl, rfl, rfl, rfl, rfl, rfl, rfl, rfl, rfl, rfl, rfl, rfl, rfl, rfl, rfl, rfl, rfl, rfl, rfl, rfl, rfl, rfl, rfl, rfl, rfl, rfl, rfl, rfl, rfl, rfl, rfl, rfl, rfl, rfl, rfl, rfl, rfl, rfl, rfl, rfl, rfl, rfl, rfl, rfl, rfl, rfl, rfl, rfl, rfl, rfl, rfl, rfl, rfl, rfl, rfl, rfl, rfl, rfl, rfl, rfl, rfl, rfl, rfl, rfl, rfl, rfl, rfl, rfl, rfl, rfl, rfl, rfl, rfl, rfl, rfl, rfl, rfl, rfl, rfl, rfl, rfl, rfl, rfl⟩
set_option maxRecDepth 100000 in
theorem nts : (Tryz.f3.ntmps = 47) ∧
 (Tryz.f4.ntmps = 64) ∧
 (Tryz.f6.ntmps = 118) ∧
 (Tryz.f7.ntmps = 29) ∧
 (Tryz.f8.ntmps = 151) ∧
 (Tryz.f9.ntmps = 131) ∧
 (Tryz.f10.ntmps = 14) ∧
 (Tryz.f11.ntmps = 51) ∧
 (Tryz.f12.ntmps = 123) ∧
 (Tryz.f13.ntmps = 108) ∧
 (Tryz.f14.ntmps = 77) ∧
 (Tryz.f15.ntmps = 39) ∧
 (Tryz.f16.ntmps = 16) ∧
 (Tryz.f17.ntmps = 172) ∧
 (Tryz.f18.ntmps = 143) ∧
 (Tryz.f19.ntmps = 31) ∧
 (Tryz.f20.ntmps = 22) ∧
 (Tryz.f21.ntmps = 80) ∧
 (Tryz.f22.ntmps = 26) ∧
 (Tryz.f23.ntmps = 35) ∧
 (Tryz.f24.ntmps = 27) ∧
 (Tryz.f25.ntmps = 19) ∧
 (Tryz.f26.ntmps = 57) ∧
 (Tryz.f27.ntmps = 19) ∧
 (Tryz.f28.ntmps = 30) ∧
 (Tryz.f29.ntmps = 14) ∧
 (Tryz.f30.ntmps = 22) ∧
 (Tryz.f31.ntmps = 32) ∧
 (Tryz.f32.ntmps = 43) ∧
 (Tryz.f33.ntmps = 35) ∧
 (Tryz.f34.ntmps = 5) ∧
 (Tryz.f35.ntmps = 64) ∧
 (Tryz.f36.ntmps = 10) ∧
 (Tryz.f37.ntmps = 21) ∧
 (Tryz.f38.ntmps = 10) ∧
 (Tryz.f39.ntmps = 57) ∧
 (Tryz.f40.ntmps = 95) ∧
 (Tryz.f41.ntmps = 4) ∧
 (Tryz.f42.ntmps = 18) ∧
 (Tryz.f43.ntmps = 76) ∧
 (Tryz.f44.ntmps = 18) ∧
 (Tryz.f45.ntmps = 22) ∧
 (Tryz.f46.ntmps = 12) ∧
 (Tryz.f47.ntmps = 41) ∧
 (Tryz.f48.ntmps = 34) ∧
 (Tryz.f49.ntmps = 16) ∧
 (Tryz.f50.ntmps = 36) ∧
 (Tryz.f51.ntmps = 84) ∧
 (Tryz.f52.ntmps = 20) ∧
 (Tryz.f53.ntmps = 84) ∧
 (Tryz.f54.ntmps = 17) ∧
 (Tryz.f55.ntmps = 78) ∧
 (Tryz.f56.ntmps = 17) ∧
 (Tryz.f57.ntmps = 42) ∧
 (Tryz.f58.ntmps = 30) ∧
 (Tryz.f59.ntmps = 133) ∧
 (Tryz.f60.ntmps = 12) ∧
 (Tryz.f61.ntmps = 38) ∧
 (Tryz.f62.ntmps = 26) ∧
 (Tryz.f63.ntmps = 6) ∧
 (Tryz.f64.ntmps = 25) ∧
 (Tryz.f65.ntmps = 111) ∧
 (Tryz.f66.ntmps = 103) ∧
 (Tryz.f67.ntmps = 21) ∧
 (Tryz.f68.ntmps = 10) ∧
 (Tryz.f69.ntmps = 9) ∧
 (Tryz.f70.ntmps = 20) ∧
 (Tryz.f71.ntmps = 17) ∧
 (Tryz.f72.ntmps = 92) ∧
 (Tryz.f73.ntmps = 32) ∧
 (Tryz.f74.ntmps = 5) ∧
 (Tryz.f75.ntmps = 15) ∧
 (Tryz.f76.ntmps = 49) ∧
 (Tryz.f77.ntmps = 62) ∧
 (Tryz.f78.ntmps = 75) ∧
 (Tryz.f79.ntmps = 29) ∧
 (Tryz.f80.ntmps = 32) ∧
 (Tryz.f81.ntmps = 77) ∧
 (Tryz.f82.ntmps = 16) ∧
 (Tryz.f83.ntmps = 25) ∧
 (Tryz.f84.ntmps = 38) ∧
 (Tryz.f85.ntmps = 9) ∧
 (Tryz.f86.ntmps = 4) ∧
 (Tryz.f87.ntmps = 125) ∧
 (Tryz.f88.ntmps = 80) ∧
 (Tryz.f89.ntmps = 19) ∧
 (Tryz.f90.ntmps = 83) ∧
 (Tryz.f91.ntmps = 23) ∧
 (Tryz.f92.ntmps = 20) ∧
 (Tryz.f93.ntmps = 42) ∧
 (Tryz.f94.ntmps = 28) ∧
 (Tryz.f95.ntmps = 27) ∧
 (Tryz.f96.ntmps = 5) ∧
 (Tryz.f97.ntmps = 19) ∧
 (Tryz.f98.ntmps = 18) ∧
 (Tryz.f99.ntmps = 8) ∧
 (Tryz.f100.ntmps = 28) ∧
 (Tryz.f101.ntmps = 31) ∧
 (Tryz.f102.ntmps = 4) ∧
 (Tryz.f103.ntmps = 54) ∧
 (Tryz.f104.ntmps = 4) ∧
 (Tryz.f105.ntmps = 25) ∧
 (Tryz.f106.ntmps = 36) ∧
 (Tryz.f107.ntmps = 94) ∧
 (Tryz.f108.ntmps = 18) ∧
 (Tryz.f109.ntmps = 22) ∧
 (Tryz.f110.ntmps = 26) ∧
 (Tryz.f111.ntmps = 26) ∧
 (Tryz.f112.ntmps = 8) ∧
 (Tryz.f113.ntmps = 13) ∧
 (Tryz.f114.ntmps = 5) ∧
 (Tryz.f115.ntmps = 11) ∧
 (Tryz.f116.ntmps = 9) ∧
 (Tryz.f117.ntmps = 9) ∧
 (Tryz.f118.ntmps = 6) ∧
 (Tryz.f119.ntmps = 19) ∧
 (Tryz.f121.ntmps = 16) ∧
 (Tryz.f122.ntmps = 18) ∧
 (Tryz.f123.ntmps = 12) ∧
 (Tryz.f124.ntmps = 23) ∧
 (Tryz.f125.ntmps = 54) ∧
 (Tryz.f126.ntmps = 37) ∧
 (Tryz.f127.ntmps = 26) ∧
 (Tryz.f128.ntmps = 25) ∧
 (Tryz.f129.ntmps = 50) ∧
 (Tryz.f130.ntmps = 8) ∧
 (Tryz.f131.ntmps = 25) ∧
 (Tryz.f132.ntmps = 17) ∧
 (Tryz.f133.ntmps = 13) ∧
 (Tryz.f134.ntmps = 78) ∧
 (Tryz.f135.ntmps = 28) ∧
 (Tryz.f136.ntmps = 35) ∧
 (Tryz.f137.ntmps = 19) ∧
 (Tryz.f138.ntmps = 34) ∧
 (Tryz.f139.ntmps = 9) ∧
 (Tryz.f140.ntmps = 6) ∧
 (Tryz.f141.ntmps = 19) ∧
 (Tryz.f142.ntmps = 18) ∧
 (Tryz.f143.ntmps = 19) ∧
 (Tryz.f144.ntmps = 27) ∧
 (Tryz.f145.ntmps = 8) ∧
 (Tryz.f146.ntmps = 23) ∧
 (Tryz.f147.ntmps = 17) ∧
 (Tryz.f148.ntmps = 19) ∧
 (Tryz.f149.ntmps = 50) ∧
 (Tryz.f150.ntmps = 4) ∧
 (Tryz.f151.ntmps = 28) ∧
 (Tryz.f152.ntmps = 18) ∧
 (Tryz.f153.ntmps = 15) ∧
 (Tryz.f154.ntmps = 15) ∧
 (Tryz.f155.ntmps = 167) ∧
 (Tryz.f156.ntmps = 102) ∧
 (Tryz.f157.ntmps = 57) ∧
 (Tryz.f158.ntmps = 30) ∧
 (Tryz.f159.ntmps = 8) ∧
 (Tryz.f160.ntmps = 34) ∧
 (Tryz.f161.ntmps = 36) ∧
 (Tryz.f162.ntmps = 6) ∧
 (Tryz.f163.ntmps = 42) ∧
 (Tryz.f164.ntmps = 18) ∧
 (Tryz.f165.ntmps = 9) ∧
 (Tryz.f166.ntmps = 19) ∧
 (Tryz.f168.ntmps = 143) ∧
 (Tryz.f169.ntmps = 9) ∧
 (Tryz.f170.ntmps = 8) ∧
 (Tryz.f171.ntmps = 19) ∧
 (Tryz.f172.ntmps = 6) ∧
 (Tryz.f173.ntmps = 25) ∧
 (Tryz.f174.ntmps = 4) ∧
 (Tryz.f175.ntmps = 8) ∧
 (Tryz.f176.ntmps = 8) ∧
 (Tryz.f178.ntmps = 10) ∧
 (Tryz.f180.ntmps = 8) ∧
 (Tryz.f181.ntmps = 19) ∧
 (Tryz.f182.ntmps = 87) ∧
 (Tryz.f186.ntmps = 62) ∧
 (Tryz.f187.ntmps = 77) ∧
 (Tryz.f188.ntmps = 43) ∧
 (Tryz.f190.ntmps = 6) ∧
 (Tryz.f191.ntmps = 81) ∧
 (Tryz.f192.ntmps = 21) ∧
 (Tryz.f193.ntmps = 14) ∧
 (Tryz.f194.ntmps = 14) ∧
 (Tryz.f195.ntmps = 40) ∧
 (Tryz.f199.ntmps = 73) ∧
 (Tryz.f200.ntmps = 11) ∧
 (Tryz.f201.ntmps = 11) ∧
 (Tryz.f202.ntmps = 16) ∧
 (Tryz.f203.ntmps = 16) ∧
 (Tryz.f204.ntmps = 39) ∧
 (Tryz.f205.ntmps = 172) ∧
 (Tryz.f206.ntmps = 18) ∧
 (Tryz.f207.ntmps = 7) ∧
 (Tryz.f208.ntmps = 5) ∧
 (Tryz.f209.ntmps = 94) :=
  ⟨rfl, rfl, rfl, rfl, rfl, rfl, rfl, rfl, rfl, rfl, rfl, rfl, rfl, rfl, rfl, rfl, rfl, rfl, rfl, rfl, rfl, rfl, rfl, rfl, rfl, rfl, rfl, rfl, rfl, rfl, rfl, rfl, rfl, rfl, rfl, rfl, rfl, rfl, rfl, rfl, rfl, rfl, rfl, rfl, rfl, rfl, rfl, rfl, rfl, rfl, rfl, rfl, rfl, rfl, rfl, rfl, rfl, rfl, rfl, rfl, rfl, rfl, rfl, rfl, rfl, rfl, rfl, rfl, rfl, rfl, rfl, rfl, rfl, rfl, rfl, rfl, rfl, rfl, rfl, rfl, rfl, rfl, rfl, rfl, rfl, rfl, rfl, rfl, rfl, rfl, rfl, rfl, rfl, rfl, rfl, rfl, rfl, rfl, rfl, rfl, rfl, rfl, rfl, rfl, rfl, rfl, rfl, rfl, rfl, rfl, rfl, rfl, rfl, rfl, rfl, rfl, rfl, rfl, rfl, rfl, rfl, rfl, rfl, rfl, rfl, rfl, rfl, rfl, rfl, rfl, rfl, rfl, rfl, rfl, rfl, rfl, rfl, rfl, rfl, rfl, rfl, rfl, rfl, rfl, rfl, rfl, rfl, rfl, rfl, rfl, rfl, rfl, rfl, rfl, rfl, rfl, rfl, rfl, rfl, rfl, rfl, rfl, rfl, rfl, rfl, rfl, rfl, rfl, rfl, rfl, rfl, rfl, rfl, rfl, rfl, rfl, rfl, rfl, rfl, rfl, rfl, rfl, rfl, rfl, rfl, rfl, rfl, rfl, rfl, rfl, rfl, rfl, rfl, rfl, rfl⟩
def wq :=
 PLift.up <|
 And.intro sa0.down <|
 And.intro sa1.down <|
 And.intro sa2.down <|
 And.intro sa3.down <|
 And.intro sa4.down <|
 And.intro sb0.down <|
 And.intro sb1.down <|
 And.intro sb2.down <|
 And.intro sb3.down <|
 And.intro TEP <|
 And.intro ztb <|
 And.intro tis <|
 And.intro ens nts
theorem vm {n : Nat} {r : Option Nat} {c : Code} {Q : XE → Fr → H → Prop} {f : Fr} {h : H} (hv : vc TE n r c Q f h) : awp TE n r c Q f h := zC mixed _ _ _ _ hv
end Go.Proofs.YtfcpapokknfeeaaGreatDoor
