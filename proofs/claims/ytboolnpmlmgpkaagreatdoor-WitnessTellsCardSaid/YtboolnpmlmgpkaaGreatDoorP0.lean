/- What the program is made of. -/
import Derived.Test.YtboolnpmlmgpkaaGreatDoorProg
import Derived.Test.YtboolnpmlmgpkaaGreatDoorA8
import Derived.Lib.LaidTab
import Derived.Lib.ItoaNum
set_option linter.unusedVariables false
namespace Go.Proofs.YtboolnpmlmgpkaaGreatDoor
open Go Go.Proofs Go.Abs
noncomputable abbrev P := Go.Proofs.Tryz.prog
/-- What the package-level variables hold. -/
def gxs : Nat → Option (Array Value → Prop)
  | 0 => some fun cs => cs = #[.int .i64 1, .int .i64 1]
  | 1 => some fun cs => cs = #[.iface 307 (.agg #[.pointer (some ⟨8, 102, none⟩)])]
  | 2 => some fun cs => cs = (Lib.pow10Tab.map fun z => Value.int .u64 z).toArray
  | 4 => some fun cs => ∃ te pe, cs = #[.iface te pe]
  | 5 => some fun cs => ∃ te pe, cs = #[.iface te pe]
  | _ => none
/-- What is told of them as values. -/
def gls : Nat → Option V
  | 0 => some (.agg [.int .i64 1, .int .i64 1])
  | _ => none
noncomputable def TE : E := { P := P, gl := gls, gx := gxs }
theorem TEP : TE.P = P := rfl
theorem gl0 : glv TE 0 = .ip (.agg [.int .i64 1, .int .i64 1]) := rfl
theorem TEtl : TE.tl = [] := rfl
theorem mixed : TE.P.follows .mixedOrders = true := rfl
set_option maxRecDepth 100000 in
theorem tis : (ti P 0 = some { kind := K.other, size := 1, bytes := 0, zero := V.any }) ∧
    (ti P 1 = some { kind := K.func, size := 1, bytes := 8, zero := V.nilf }) ∧
    (ti P 2 = some { kind := K.int IntKind.i64, size := 1, bytes := 8, zero := V.int IntKind.i64 0 }) ∧
    (ti P 3 = some { kind := K.int IntKind.i64, size := 1, bytes := 8, zero := V.int IntKind.i64 0 }) ∧
    (ti P 4 = some { kind := K.bool, size := 1, bytes := 1, zero := V.bool false }) ∧
    (ti P 5 = some { kind := K.int IntKind.u8, size := 1, bytes := 1, zero := V.int IntKind.u8 0 }) ∧
    (ti P 6 = some { kind := K.int IntKind.u8, size := 1, bytes := 1, zero := V.int IntKind.u8 0 }) ∧
    (ti P 7 = some { kind := K.struct [(0, 2), (1, 3), (2, 4), (3, 6)], size := 4, bytes := 24, zero := V.agg [V.int IntKind.i64 0, V.int IntKind.i64 0, V.bool false, V.int IntKind.u8 0] }) ∧
    (ti P 8 = some { kind := K.struct [(0, 2), (1, 3), (2, 4), (3, 6)], size := 4, bytes := 24, zero := V.agg [V.int IntKind.i64 0, V.int IntKind.i64 0, V.bool false, V.int IntKind.u8 0] }) ∧
    (ti P 9 = some { kind := K.str, size := 1, bytes := 16, zero := V.str [] }) ∧
    (ti P 10 = some { kind := K.str, size := 1, bytes := 16, zero := V.str [] }) ∧
    (ti P 11 = some { kind := K.str, size := 1, bytes := 16, zero := V.str [] }) ∧
    (ti P 12 = some { kind := K.int IntKind.u64, size := 1, bytes := 8, zero := V.int IntKind.u64 0 }) ∧
    (ti P 13 = some { kind := K.struct [(0, 9), (1, 12)], size := 2, bytes := 24, zero := V.agg [V.str [], V.int IntKind.u64 0] }) ∧
    (ti P 14 = some { kind := K.struct [(0, 9), (1, 12)], size := 2, bytes := 24, zero := V.agg [V.str [], V.int IntKind.u64 0] }) ∧
    (ti P 15 = some { kind := K.ptr 350, size := 1, bytes := 8, zero := V.nilp }) ∧
    (ti P 16 = some { kind := K.ptr 353, size := 1, bytes := 8, zero := V.nilp }) ∧
    (ti P 17 = some { kind := K.ptr 360, size := 1, bytes := 8, zero := V.nilp }) ∧
    (ti P 18 = some { kind := K.struct [(0, 17)], size := 1, bytes := 8, zero := V.agg [V.nilp] }) ∧
    (ti P 19 = some { kind := K.struct [(0, 17)], size := 1, bytes := 8, zero := V.agg [V.nilp] }) ∧
    (ti P 20 = some { kind := K.iface, size := 1, bytes := 16, zero := V.nili }) ∧
    (ti P 21 = some { kind := K.int IntKind.i32, size := 1, bytes := 4, zero := V.int IntKind.i32 0 }) ∧
    (ti P 22 = some { kind := K.slice 3, size := 1, bytes := 24, zero := V.nils }) ∧
    (ti P 23 = some { kind := K.slice 106, size := 1, bytes := 24, zero := V.nils }) ∧
    (ti P 24 = some { kind := K.struct [(0, 3), (1, 22), (2, 22), (3, 23), (4, 22)], size := 5, bytes := 104, zero := V.agg [V.int IntKind.i64 0, V.nils, V.nils, V.nils, V.nils] }) ∧
    (ti P 25 = some { kind := K.struct [(0, 3), (1, 22), (2, 22), (3, 23), (4, 22)], size := 5, bytes := 104, zero := V.agg [V.int IntKind.i64 0, V.nils, V.nils, V.nils, V.nils] }) ∧
    (ti P 26 = some { kind := K.slice 9, size := 1, bytes := 24, zero := V.nils }) ∧
    (ti P 27 = some { kind := K.struct [(0, 25), (5, 26), (6, 26), (7, 26)], size := 8, bytes := 176, zero := V.agg [V.int IntKind.i64 0, V.nils, V.nils, V.nils, V.nils, V.nils, V.nils, V.nils] }) ∧
    (ti P 28 = some { kind := K.struct [(0, 25), (5, 26), (6, 26), (7, 26)], size := 8, bytes := 176, zero := V.agg [V.int IntKind.i64 0, V.nils, V.nils, V.nils, V.nils, V.nils, V.nils, V.nils] }) ∧
    (ti P 29 = some { kind := K.func, size := 1, bytes := 8, zero := V.nilf }) ∧
    (ti P 30 = some { kind := K.func, size := 1, bytes := 8, zero := V.nilf }) ∧
    (ti P 31 = some { kind := K.int IntKind.i64, size := 1, bytes := 8, zero := V.int IntKind.i64 0 }) ∧
    (ti P 32 = some { kind := K.other, size := 1, bytes := 0, zero := V.any }) ∧
    (ti P 33 = some { kind := K.func, size := 1, bytes := 8, zero := V.nilf }) ∧
    (ti P 34 = some { kind := K.func, size := 1, bytes := 8, zero := V.nilf }) ∧
    (ti P 35 = some { kind := K.other, size := 1, bytes := 0, zero := V.any }) ∧
    (ti P 36 = some { kind := K.func, size := 1, bytes := 8, zero := V.nilf }) ∧
    (ti P 37 = some { kind := K.struct [(0, 31), (1, 3), (2, 3)], size := 3, bytes := 24, zero := V.agg [V.int IntKind.i64 0, V.int IntKind.i64 0, V.int IntKind.i64 0] }) ∧
    (ti P 38 = some { kind := K.struct [(0, 31), (1, 3), (2, 3)], size := 3, bytes := 24, zero := V.agg [V.int IntKind.i64 0, V.int IntKind.i64 0, V.int IntKind.i64 0] }) ∧
    (ti P 39 = some { kind := K.other, size := 1, bytes := 0, zero := V.any }) ∧
    (ti P 40 = some { kind := K.func, size := 1, bytes := 8, zero := V.nilf }) ∧
    (ti P 41 = some { kind := K.func, size := 1, bytes := 8, zero := V.nilf }) ∧
    (ti P 42 = some { kind := K.func, size := 1, bytes := 8, zero := V.nilf }) ∧
    (ti P 43 = some { kind := K.func, size := 1, bytes := 8, zero := V.nilf }) ∧
    (ti P 44 = some { kind := K.func, size := 1, bytes := 8, zero := V.nilf }) ∧
    (ti P 45 = some { kind := K.func, size := 1, bytes := 8, zero := V.nilf }) ∧
    (ti P 46 = some { kind := K.other, size := 1, bytes := 0, zero := V.any }) ∧
    (ti P 47 = some { kind := K.func, size := 1, bytes := 8, zero := V.nilf }) ∧
    (ti P 48 = some { kind := K.other, size := 1, bytes := 0, zero := V.any }) ∧
    (ti P 49 = some { kind := K.func, size := 1, bytes := 8, zero := V.nilf }) ∧
    (ti P 50 = some { kind := K.func, size := 1, bytes := 8, zero := V.nilf }) ∧
    (ti P 51 = some { kind := K.func, size := 1, bytes := 8, zero := V.nilf }) ∧
    (ti P 52 = some { kind := K.slice 22, size := 1, bytes := 24, zero := V.nils }) ∧
    (ti P 53 = some { kind := K.struct [(0, 3), (1, 22), (2, 52)], size := 3, bytes := 56, zero := V.agg [V.int IntKind.i64 0, V.nils, V.nils] }) ∧
    (ti P 54 = some { kind := K.struct [(0, 3), (1, 22), (2, 52)], size := 3, bytes := 56, zero := V.agg [V.int IntKind.i64 0, V.nils, V.nils] }) ∧
    (ti P 55 = some { kind := K.func, size := 1, bytes := 8, zero := V.nilf }) ∧
    (ti P 56 = some { kind := K.func, size := 1, bytes := 8, zero := V.nilf }) ∧
    (ti P 57 = some { kind := K.struct [(0, 3), (1, 22), (2, 52)], size := 3, bytes := 56, zero := V.agg [V.int IntKind.i64 0, V.nils, V.nils] }) ∧
    (ti P 58 = some { kind := K.func, size := 1, bytes := 8, zero := V.nilf }) ∧
    (ti P 59 = some { kind := K.slice 4, size := 1, bytes := 24, zero := V.nils }) ∧
    (ti P 60 = some { kind := K.slice 59, size := 1, bytes := 24, zero := V.nils }) ∧
    (ti P 61 = some { kind := K.other, size := 1, bytes := 0, zero := V.any }) ∧
    (ti P 62 = some { kind := K.func, size := 1, bytes := 8, zero := V.nilf }) ∧
    (ti P 63 = some { kind := K.func, size := 1, bytes := 8, zero := V.nilf }) ∧
    (ti P 64 = some { kind := K.other, size := 1, bytes := 0, zero := V.any }) ∧
    (ti P 65 = some { kind := K.func, size := 1, bytes := 8, zero := V.nilf }) ∧
    (ti P 66 = some { kind := K.func, size := 1, bytes := 8, zero := V.nilf }) ∧
    (ti P 67 = some { kind := K.other, size := 1, bytes := 0, zero := V.any }) ∧
    (ti P 68 = some { kind := K.func, size := 1, bytes := 8, zero := V.nilf }) ∧
    (ti P 69 = some { kind := K.other, size := 1, bytes := 0, zero := V.any }) ∧
    (ti P 70 = some { kind := K.func, size := 1, bytes := 8, zero := V.nilf }) ∧
    (ti P 71 = some { kind := K.func, size := 1, bytes := 8, zero := V.nilf }) ∧
    (ti P 72 = some { kind := K.func, size := 1, bytes := 8, zero := V.nilf }) ∧
    (ti P 73 = some { kind := K.func, size := 1, bytes := 8, zero := V.nilf }) ∧
    (ti P 74 = some { kind := K.func, size := 1, bytes := 8, zero := V.nilf }) ∧
    (ti P 75 = some { kind := K.func, size := 1, bytes := 8, zero := V.nilf }) ∧
    (ti P 76 = some { kind := K.func, size := 1, bytes := 8, zero := V.nilf }) ∧
    (ti P 77 = some { kind := K.other, size := 1, bytes := 0, zero := V.any }) ∧
    (ti P 78 = some { kind := K.func, size := 1, bytes := 8, zero := V.nilf }) ∧
    (ti P 79 = some { kind := K.func, size := 1, bytes := 8, zero := V.nilf }) ∧
    (ti P 80 = some { kind := K.func, size := 1, bytes := 8, zero := V.nilf }) ∧
    (ti P 81 = some { kind := K.func, size := 1, bytes := 8, zero := V.nilf }) ∧
    (ti P 82 = some { kind := K.func, size := 1, bytes := 8, zero := V.nilf }) ∧
    (ti P 83 = some { kind := K.other, size := 1, bytes := 0, zero := V.any }) ∧
    (ti P 84 = some { kind := K.func, size := 1, bytes := 8, zero := V.nilf }) ∧
    (ti P 85 = some { kind := K.arr 9 3 (some IntKind.i64), size := 9, bytes := 72, zero := V.agg [V.int IntKind.i64 0, V.int IntKind.i64 0, V.int IntKind.i64 0, V.int IntKind.i64 0, V.int IntKind.i64 0, V.int IntKind.i64 0, V.int IntKind.i64 0, V.int IntKind.i64 0, V.int IntKind.i64 0] }) ∧
    (ti P 86 = some { kind := K.other, size := 1, bytes := 0, zero := V.any }) ∧
    (ti P 87 = some { kind := K.func, size := 1, bytes := 8, zero := V.nilf }) ∧
    (ti P 88 = some { kind := K.arr 5 26 none, size := 5, bytes := 120, zero := V.agg [V.nils, V.nils, V.nils, V.nils, V.nils] }) ∧
    (ti P 89 = some { kind := K.other, size := 1, bytes := 0, zero := V.any }) ∧
    (ti P 90 = some { kind := K.func, size := 1, bytes := 8, zero := V.nilf }) ∧
    (ti P 91 = some { kind := K.arr 5 3 (some IntKind.i64), size := 5, bytes := 40, zero := V.agg [V.int IntKind.i64 0, V.int IntKind.i64 0, V.int IntKind.i64 0, V.int IntKind.i64 0, V.int IntKind.i64 0] }) ∧
    (ti P 92 = some { kind := K.func, size := 1, bytes := 8, zero := V.nilf }) ∧
    (ti P 93 = some { kind := K.func, size := 1, bytes := 8, zero := V.nilf }) ∧
    (ti P 94 = some { kind := K.ptr 100, size := 1, bytes := 8, zero := V.nilp }) ∧
    (ti P 95 = some { kind := K.ptr 98, size := 1, bytes := 8, zero := V.nilp }) ∧
    (ti P 96 = some { kind := K.slice 5, size := 1, bytes := 24, zero := V.nils }) ∧
    (ti P 97 = some { kind := K.struct [(0, 95), (1, 96)], size := 2, bytes := 32, zero := V.agg [V.nilp, V.nils] }) ∧
    (ti P 98 = some { kind := K.struct [(0, 95), (1, 96)], size := 2, bytes := 32, zero := V.agg [V.nilp, V.nils] }) ∧
    (ti P 99 = some { kind := K.struct [(0, 98)], size := 2, bytes := 32, zero := V.agg [V.nilp, V.nils] }) ∧
    (ti P 100 = some { kind := K.struct [(0, 98)], size := 2, bytes := 32, zero := V.agg [V.nilp, V.nils] }) ∧
    (ti P 101 = some { kind := K.iface, size := 1, bytes := 16, zero := V.nili }) ∧
    (ti P 102 = some { kind := K.iface, size := 1, bytes := 16, zero := V.nili }) ∧
    (ti P 103 = some { kind := K.other, size := 1, bytes := 0, zero := V.any }) ∧
    (ti P 104 = some { kind := K.func, size := 1, bytes := 8, zero := V.nilf }) ∧
    (ti P 105 = some { kind := K.func, size := 1, bytes := 8, zero := V.nilf }) ∧
    (ti P 106 = some { kind := K.arr 2 3 (some IntKind.i64), size := 2, bytes := 16, zero := V.agg [V.int IntKind.i64 0, V.int IntKind.i64 0] }) ∧
    (ti P 107 = some { kind := K.func, size := 1, bytes := 8, zero := V.nilf }) ∧
    (ti P 108 = some { kind := K.func, size := 1, bytes := 8, zero := V.nilf }) ∧
    (ti P 109 = some { kind := K.func, size := 1, bytes := 8, zero := V.nilf }) ∧
    (ti P 110 = some { kind := K.func, size := 1, bytes := 8, zero := V.nilf }) ∧
    (ti P 111 = some { kind := K.slice 26, size := 1, bytes := 24, zero := V.nils }) ∧
    (ti P 112 = some { kind := K.func, size := 1, bytes := 8, zero := V.nilf }) ∧
    (ti P 113 = some { kind := K.func, size := 1, bytes := 8, zero := V.nilf }) ∧
    (ti P 114 = some { kind := K.func, size := 1, bytes := 8, zero := V.nilf }) ∧
    (ti P 115 = some { kind := K.ptr 38, size := 1, bytes := 8, zero := V.nilp }) ∧
    (ti P 116 = some { kind := K.ptr 123, size := 1, bytes := 8, zero := V.nilp }) ∧
    (ti P 117 = some { kind := K.struct [(0, 9), (1, 3)], size := 2, bytes := 24, zero := V.agg [V.str [], V.int IntKind.i64 0] }) ∧
    (ti P 118 = some { kind := K.struct [(0, 9), (1, 3)], size := 2, bytes := 24, zero := V.agg [V.str [], V.int IntKind.i64 0] }) ∧
    (ti P 119 = some { kind := K.map 3 3, size := 1, bytes := 8, zero := V.nilm }) ∧
    (ti P 120 = some { kind := K.slice 129, size := 1, bytes := 24, zero := V.nils }) ∧
    (ti P 121 = some { kind := K.slice 132, size := 1, bytes := 24, zero := V.nils }) ∧
    (ti P 122 = some { kind := K.struct [(0, 118), (2, 3), (3, 119), (4, 22), (5, 22), (6, 120), (7, 22), (8, 120), (9, 121)], size := 10, bytes := 184, zero := V.agg [V.str [], V.int IntKind.i64 0, V.int IntKind.i64 0, V.nilm, V.nils, V.nils, V.nils, V.nils, V.nils, V.nils] }) ∧
    (ti P 123 = some { kind := K.struct [(0, 118), (2, 3), (3, 119), (4, 22), (5, 22), (6, 120), (7, 22), (8, 120), (9, 121)], size := 10, bytes := 184, zero := V.agg [V.str [], V.int IntKind.i64 0, V.int IntKind.i64 0, V.nilm, V.nils, V.nils, V.nils, V.nils, V.nils, V.nils] }) ∧
    (ti P 124 = some { kind := K.func, size := 1, bytes := 8, zero := V.nilf }) ∧
    (ti P 125 = some { kind := K.arr 4 1 none, size := 4, bytes := 32, zero := V.agg [V.nilf, V.nilf, V.nilf, V.nilf] }) ∧
    (ti P 126 = some { kind := K.arr 4 3 (some IntKind.i64), size := 4, bytes := 32, zero := V.agg [V.int IntKind.i64 0, V.int IntKind.i64 0, V.int IntKind.i64 0, V.int IntKind.i64 0] }) ∧
    (ti P 127 = some { kind := K.func, size := 1, bytes := 8, zero := V.nilf }) ∧
    (ti P 128 = some { kind := K.struct [(0, 3), (1, 3)], size := 2, bytes := 16, zero := V.agg [V.int IntKind.i64 0, V.int IntKind.i64 0] }) ∧
    (ti P 129 = some { kind := K.struct [(0, 3), (1, 3)], size := 2, bytes := 16, zero := V.agg [V.int IntKind.i64 0, V.int IntKind.i64 0] }) ∧
    (ti P 130 = some { kind := K.arr 2 129 none, size := 4, bytes := 32, zero := V.agg [V.int IntKind.i64 0, V.int IntKind.i64 0, V.int IntKind.i64 0, V.int IntKind.i64 0] }) ∧
    (ti P 131 = some { kind := K.struct [(0, 3), (1, 3), (2, 130)], size := 6, bytes := 48, zero := V.agg [V.int IntKind.i64 0, V.int IntKind.i64 0, V.int IntKind.i64 0, V.int IntKind.i64 0, V.int IntKind.i64 0, V.int IntKind.i64 0] }) ∧
    (ti P 132 = some { kind := K.struct [(0, 3), (1, 3), (2, 130)], size := 6, bytes := 48, zero := V.agg [V.int IntKind.i64 0, V.int IntKind.i64 0, V.int IntKind.i64 0, V.int IntKind.i64 0, V.int IntKind.i64 0, V.int IntKind.i64 0] }) ∧
    (ti P 133 = some { kind := K.func, size := 1, bytes := 8, zero := V.nilf }) ∧
    (ti P 134 = some { kind := K.func, size := 1, bytes := 8, zero := V.nilf }) ∧
    (ti P 135 = some { kind := K.func, size := 1, bytes := 8, zero := V.nilf }) ∧
    (ti P 136 = some { kind := K.func, size := 1, bytes := 8, zero := V.nilf }) ∧
    (ti P 137 = some { kind := K.func, size := 1, bytes := 8, zero := V.nilf }) ∧
    (ti P 138 = some { kind := K.arr 3 3 (some IntKind.i64), size := 3, bytes := 24, zero := V.agg [V.int IntKind.i64 0, V.int IntKind.i64 0, V.int IntKind.i64 0] }) ∧
    (ti P 139 = some { kind := K.func, size := 1, bytes := 8, zero := V.nilf }) ∧
    (ti P 140 = some { kind := K.func, size := 1, bytes := 8, zero := V.nilf }) ∧
    (ti P 141 = some { kind := K.func, size := 1, bytes := 8, zero := V.nilf }) ∧
    (ti P 142 = some { kind := K.func, size := 1, bytes := 8, zero := V.nilf }) ∧
    (ti P 143 = some { kind := K.func, size := 1, bytes := 8, zero := V.nilf }) ∧
    (ti P 144 = some { kind := K.func, size := 1, bytes := 8, zero := V.nilf }) ∧
    (ti P 145 = some { kind := K.ptr 149, size := 1, bytes := 8, zero := V.nilp }) ∧
    (ti P 146 = some { kind := K.func, size := 1, bytes := 8, zero := V.nilf }) ∧
    (ti P 147 = some { kind := K.map 106 3, size := 1, bytes := 8, zero := V.nilm }) ∧
    (ti P 148 = some { kind := K.struct [(0, 25), (5, 147), (6, 22)], size := 7, bytes := 136, zero := V.agg [V.int IntKind.i64 0, V.nils, V.nils, V.nils, V.nils, V.nilm, V.nils] }) ∧
    (ti P 149 = some { kind := K.struct [(0, 25), (5, 147), (6, 22)], size := 7, bytes := 136, zero := V.agg [V.int IntKind.i64 0, V.nils, V.nils, V.nils, V.nils, V.nilm, V.nils] }) ∧
    (ti P 150 = some { kind := K.func, size := 1, bytes := 8, zero := V.nilf }) ∧
    (ti P 151 = some { kind := K.func, size := 1, bytes := 8, zero := V.nilf }) ∧
    (ti P 152 = some { kind := K.func, size := 1, bytes := 8, zero := V.nilf }) ∧
    (ti P 153 = some { kind := K.func, size := 1, bytes := 8, zero := V.nilf }) ∧
    (ti P 154 = some { kind := K.struct [(0, 3), (1, 31)], size := 2, bytes := 16, zero := V.agg [V.int IntKind.i64 0, V.int IntKind.i64 0] }) ∧
    (ti P 155 = some { kind := K.struct [(0, 3), (1, 31)], size := 2, bytes := 16, zero := V.agg [V.int IntKind.i64 0, V.int IntKind.i64 0] }) ∧
    (ti P 156 = some { kind := K.other, size := 1, bytes := 0, zero := V.any }) ∧
    (ti P 157 = some { kind := K.ptr 159, size := 1, bytes := 8, zero := V.nilp }) ∧
    (ti P 158 = some { kind := K.struct [(0, 9), (1, 3)], size := 2, bytes := 24, zero := V.agg [V.str [], V.int IntKind.i64 0] }) ∧
    (ti P 159 = some { kind := K.struct [(0, 9), (1, 3)], size := 2, bytes := 24, zero := V.agg [V.str [], V.int IntKind.i64 0] }) ∧
    (ti P 160 = some { kind := K.func, size := 1, bytes := 8, zero := V.nilf }) ∧
    (ti P 161 = some { kind := K.func, size := 1, bytes := 8, zero := V.nilf }) ∧
    (ti P 162 = some { kind := K.struct [(0, 59), (1, 60)], size := 2, bytes := 48, zero := V.agg [V.nils, V.nils] }) ∧
    (ti P 163 = some { kind := K.struct [(0, 59), (1, 60)], size := 2, bytes := 48, zero := V.agg [V.nils, V.nils] }) ∧
    (ti P 164 = some { kind := K.func, size := 1, bytes := 8, zero := V.nilf }) ∧
    (ti P 165 = some { kind := K.func, size := 1, bytes := 8, zero := V.nilf }) ∧
    (ti P 166 = some { kind := K.func, size := 1, bytes := 8, zero := V.nilf }) ∧
    (ti P 167 = some { kind := K.func, size := 1, bytes := 8, zero := V.nilf }) ∧
    (ti P 168 = some { kind := K.func, size := 1, bytes := 8, zero := V.nilf }) ∧
    (ti P 169 = some { kind := K.func, size := 1, bytes := 8, zero := V.nilf }) ∧
    (ti P 170 = some { kind := K.struct [(0, 3), (1, 31)], size := 2, bytes := 16, zero := V.agg [V.int IntKind.i64 0, V.int IntKind.i64 0] }) ∧
    (ti P 171 = some { kind := K.struct [(0, 3), (1, 31)], size := 2, bytes := 16, zero := V.agg [V.int IntKind.i64 0, V.int IntKind.i64 0] }) ∧
    (ti P 172 = some { kind := K.other, size := 1, bytes := 0, zero := V.any }) ∧
    (ti P 173 = some { kind := K.ptr 175, size := 1, bytes := 8, zero := V.nilp }) ∧
    (ti P 174 = some { kind := K.struct [(0, 9), (1, 3)], size := 2, bytes := 24, zero := V.agg [V.str [], V.int IntKind.i64 0] }) ∧
    (ti P 175 = some { kind := K.struct [(0, 9), (1, 3)], size := 2, bytes := 24, zero := V.agg [V.str [], V.int IntKind.i64 0] }) ∧
    (ti P 176 = some { kind := K.func, size := 1, bytes := 8, zero := V.nilf }) ∧
    (ti P 177 = some { kind := K.other, size := 1, bytes := 0, zero := V.any }) ∧
    (ti P 178 = some { kind := K.func, size := 1, bytes := 8, zero := V.nilf }) ∧
    (ti P 179 = some { kind := K.func, size := 1, bytes := 8, zero := V.nilf }) ∧
    (ti P 180 = some { kind := K.func, size := 1, bytes := 8, zero := V.nilf }) ∧
    (ti P 181 = some { kind := K.func, size := 1, bytes := 8, zero := V.nilf }) ∧
    (ti P 182 = some { kind := K.func, size := 1, bytes := 8, zero := V.nilf }) ∧
    (ti P 183 = some { kind := K.func, size := 1, bytes := 8, zero := V.nilf }) ∧
    (ti P 184 = some { kind := K.func, size := 1, bytes := 8, zero := V.nilf }) ∧
    (ti P 185 = some { kind := K.other, size := 1, bytes := 0, zero := V.any }) ∧
    (ti P 186 = some { kind := K.func, size := 1, bytes := 8, zero := V.nilf }) ∧
    (ti P 187 = some { kind := K.func, size := 1, bytes := 8, zero := V.nilf }) ∧
    (ti P 188 = some { kind := K.func, size := 1, bytes := 8, zero := V.nilf }) ∧
    (ti P 189 = some { kind := K.ptr 118, size := 1, bytes := 8, zero := V.nilp }) ∧
    (ti P 190 = some { kind := K.func, size := 1, bytes := 8, zero := V.nilf }) ∧
    (ti P 191 = some { kind := K.ptr 88, size := 1, bytes := 8, zero := V.nilp }) ∧
    (ti P 192 = some { kind := K.int IntKind.u64, size := 1, bytes := 8, zero := V.int IntKind.u64 0 }) ∧
    (ti P 193 = some { kind := K.func, size := 1, bytes := 8, zero := V.nilf }) ∧
    (ti P 194 = some { kind := K.ptr 5, size := 1, bytes := 8, zero := V.nilp }) ∧
    (ti P 195 = some { kind := K.func, size := 1, bytes := 8, zero := V.nilf }) ∧
    (ti P 196 = some { kind := K.func, size := 1, bytes := 8, zero := V.nilf }) ∧
    (ti P 197 = some { kind := K.struct [(0, 3), (1, 31)], size := 2, bytes := 16, zero := V.agg [V.int IntKind.i64 0, V.int IntKind.i64 0] }) ∧
    (ti P 198 = some { kind := K.struct [(0, 3), (1, 31)], size := 2, bytes := 16, zero := V.agg [V.int IntKind.i64 0, V.int IntKind.i64 0] }) ∧
    (ti P 199 = some { kind := K.other, size := 1, bytes := 0, zero := V.any }) ∧
    (ti P 200 = some { kind := K.func, size := 1, bytes := 8, zero := V.nilf }) ∧
    (ti P 201 = some { kind := K.func, size := 1, bytes := 8, zero := V.nilf }) ∧
    (ti P 202 = some { kind := K.func, size := 1, bytes := 8, zero := V.nilf }) ∧
    (ti P 203 = some { kind := K.other, size := 1, bytes := 0, zero := V.any }) ∧
    (ti P 204 = some { kind := K.func, size := 1, bytes := 8, zero := V.nilf }) ∧
    (ti P 205 = some { kind := K.func, size := 1, bytes := 8, zero := V.nilf }) ∧
    (ti P 206 = some { kind := K.func, size := 1, bytes := 8, zero := V.nilf }) ∧
    (ti P 207 = some { kind := K.func, size := 1, bytes := 8, zero := V.nilf }) ∧
    (ti P 208 = some { kind := K.func, size := 1, bytes := 8, zero := V.nilf }) ∧
    (ti P 209 = some { kind := K.func, size := 1, bytes := 8, zero := V.nilf }) ∧
    (ti P 210 = some { kind := K.func, size := 1, bytes := 8, zero := V.nilf }) ∧
    (ti P 211 = some { kind := K.func, size := 1, bytes := 8, zero := V.nilf }) ∧
    (ti P 212 = some { kind := K.func, size := 1, bytes := 8, zero := V.nilf }) ∧
    (ti P 213 = some { kind := K.struct [(0, 23), (1, 3)], size := 2, bytes := 32, zero := V.agg [V.nils, V.int IntKind.i64 0] }) ∧
    (ti P 214 = some { kind := K.struct [(0, 23), (1, 3)], size := 2, bytes := 32, zero := V.agg [V.nils, V.int IntKind.i64 0] }) ∧
    (ti P 215 = some { kind := K.func, size := 1, bytes := 8, zero := V.nilf }) ∧
    (ti P 216 = some { kind := K.func, size := 1, bytes := 8, zero := V.nilf }) ∧
    (ti P 217 = some { kind := K.func, size := 1, bytes := 8, zero := V.nilf }) ∧
    (ti P 218 = some { kind := K.func, size := 1, bytes := 8, zero := V.nilf }) ∧
    (ti P 219 = some { kind := K.func, size := 1, bytes := 8, zero := V.nilf }) ∧
    (ti P 220 = some { kind := K.func, size := 1, bytes := 8, zero := V.nilf }) ∧
    (ti P 221 = some { kind := K.func, size := 1, bytes := 8, zero := V.nilf }) ∧
    (ti P 222 = some { kind := K.other, size := 1, bytes := 0, zero := V.any }) ∧
    (ti P 223 = some { kind := K.func, size := 1, bytes := 8, zero := V.nilf }) ∧
    (ti P 224 = some { kind := K.func, size := 1, bytes := 8, zero := V.nilf }) ∧
    (ti P 225 = some { kind := K.func, size := 1, bytes := 8, zero := V.nilf }) ∧
    (ti P 226 = some { kind := K.func, size := 1, bytes := 8, zero := V.nilf }) ∧
    (ti P 227 = some { kind := K.func, size := 1, bytes := 8, zero := V.nilf }) ∧
    (ti P 228 = some { kind := K.func, size := 1, bytes := 8, zero := V.nilf }) ∧
    (ti P 229 = some { kind := K.func, size := 1, bytes := 8, zero := V.nilf }) ∧
    (ti P 230 = some { kind := K.func, size := 1, bytes := 8, zero := V.nilf }) ∧
    (ti P 231 = some { kind := K.func, size := 1, bytes := 8, zero := V.nilf }) ∧
    (ti P 232 = some { kind := K.func, size := 1, bytes := 8, zero := V.nilf }) ∧
    (ti P 233 = some { kind := K.ptr 235, size := 1, bytes := 8, zero := V.nilp }) ∧
    (ti P 234 = some { kind := K.struct [(0, 102)], size := 1, bytes := 16, zero := V.agg [V.nili] }) ∧
    (ti P 235 = some { kind := K.struct [(0, 102)], size := 1, bytes := 16, zero := V.agg [V.nili] }) ∧
    (ti P 236 = some { kind := K.func, size := 1, bytes := 8, zero := V.nilf }) ∧
    (ti P 237 = some { kind := K.func, size := 1, bytes := 8, zero := V.nilf }) ∧
    (ti P 238 = some { kind := K.other, size := 1, bytes := 0, zero := V.any }) ∧
    (ti P 239 = some { kind := K.func, size := 1, bytes := 8, zero := V.nilf }) ∧
    (ti P 240 = some { kind := K.func, size := 1, bytes := 8, zero := V.nilf }) ∧
    (ti P 241 = some { kind := K.func, size := 1, bytes := 8, zero := V.nilf }) ∧
    (ti P 242 = some { kind := K.other, size := 1, bytes := 8, zero := V.nilp }) ∧
    (ti P 243 = some { kind := K.func, size := 1, bytes := 8, zero := V.nilf }) ∧
    (ti P 244 = some { kind := K.func, size := 1, bytes := 8, zero := V.nilf }) ∧
    (ti P 245 = some { kind := K.func, size := 1, bytes := 8, zero := V.nilf }) ∧
    (ti P 246 = some { kind := K.map 9 4, size := 1, bytes := 8, zero := V.nilm }) ∧
    (ti P 247 = some { kind := K.func, size := 1, bytes := 8, zero := V.nilf }) ∧
    (ti P 248 = some { kind := K.func, size := 1, bytes := 8, zero := V.nilf }) ∧
    (ti P 249 = some { kind := K.map 3 4, size := 1, bytes := 8, zero := V.nilm }) ∧
    (ti P 250 = some { kind := K.func, size := 1, bytes := 8, zero := V.nilf }) ∧
    (ti P 251 = some { kind := K.func, size := 1, bytes := 8, zero := V.nilf }) ∧
    (ti P 252 = some { kind := K.func, size := 1, bytes := 8, zero := V.nilf }) ∧
    (ti P 253 = some { kind := K.func, size := 1, bytes := 8, zero := V.nilf }) ∧
    (ti P 254 = some { kind := K.func, size := 1, bytes := 8, zero := V.nilf }) ∧
    (ti P 255 = some { kind := K.func, size := 1, bytes := 8, zero := V.nilf }) ∧
    (ti P 256 = some { kind := K.other, size := 1, bytes := 0, zero := V.any }) ∧
    (ti P 257 = some { kind := K.func, size := 1, bytes := 8, zero := V.nilf }) ∧
    (ti P 258 = some { kind := K.arr 2 3 (some IntKind.i64), size := 2, bytes := 16, zero := V.agg [V.int IntKind.i64 0, V.int IntKind.i64 0] }) ∧
    (ti P 259 = some { kind := K.func, size := 1, bytes := 8, zero := V.nilf }) ∧
    (ti P 260 = some { kind := K.func, size := 1, bytes := 8, zero := V.nilf }) ∧
    (ti P 261 = some { kind := K.func, size := 1, bytes := 8, zero := V.nilf }) ∧
    (ti P 262 = some { kind := K.func, size := 1, bytes := 8, zero := V.nilf }) ∧
    (ti P 263 = some { kind := K.ptr 31, size := 1, bytes := 8, zero := V.nilp }) ∧
    (ti P 264 = some { kind := K.func, size := 1, bytes := 8, zero := V.nilf }) ∧
    (ti P 265 = some { kind := K.str, size := 1, bytes := 16, zero := V.str [] }) ∧
    (ti P 267 = some { kind := K.int IntKind.u64, size := 1, bytes := 8, zero := V.int IntKind.u64 0 }) ∧
    (ti P 268 = some { kind := K.func, size := 1, bytes := 8, zero := V.nilf }) ∧
    (ti P 269 = some { kind := K.func, size := 1, bytes := 8, zero := V.nilf }) ∧
    (ti P 270 = some { kind := K.other, size := 1, bytes := 0, zero := V.any }) ∧
    (ti P 271 = some { kind := K.func, size := 1, bytes := 8, zero := V.nilf }) ∧
    (ti P 272 = some { kind := K.func, size := 1, bytes := 8, zero := V.nilf }) ∧
    (ti P 273 = some { kind := K.func, size := 1, bytes := 8, zero := V.nilf }) ∧
    (ti P 274 = some { kind := K.func, size := 1, bytes := 8, zero := V.nilf }) ∧
    (ti P 275 = some { kind := K.func, size := 1, bytes := 8, zero := V.nilf }) ∧
    (ti P 276 = some { kind := K.func, size := 1, bytes := 8, zero := V.nilf }) ∧
    (ti P 277 = some { kind := K.func, size := 1, bytes := 8, zero := V.nilf }) ∧
    (ti P 278 = some { kind := K.int IntKind.u64, size := 1, bytes := 8, zero := V.int IntKind.u64 0 }) ∧
    (ti P 279 = some { kind := K.struct [(0, 17), (1, 242), (2, 278)], size := 3, bytes := 24, zero := V.agg [V.nilp, V.nilp, V.int IntKind.u64 0] }) ∧
    (ti P 280 = some { kind := K.struct [(0, 17), (1, 242), (2, 278)], size := 3, bytes := 24, zero := V.agg [V.nilp, V.nilp, V.int IntKind.u64 0] }) ∧
    (ti P 281 = some { kind := K.func, size := 1, bytes := 8, zero := V.nilf }) ∧
    (ti P 282 = some { kind := K.iface, size := 1, bytes := 16, zero := V.nili }) ∧
    (ti P 283 = some { kind := K.iface, size := 1, bytes := 16, zero := V.nili }) ∧
    (ti P 284 = some { kind := K.func, size := 1, bytes := 8, zero := V.nilf }) ∧
    (ti P 285 = some { kind := K.int IntKind.u8, size := 1, bytes := 1, zero := V.int IntKind.u8 0 }) ∧
    (ti P 286 = some { kind := K.func, size := 1, bytes := 8, zero := V.nilf }) ∧
    (ti P 287 = some { kind := K.func, size := 1, bytes := 8, zero := V.nilf }) ∧
    (ti P 288 = some { kind := K.func, size := 1, bytes := 8, zero := V.nilf }) ∧
    (ti P 289 = some { kind := K.func, size := 1, bytes := 8, zero := V.nilf }) ∧
    (ti P 290 = some { kind := K.func, size := 1, bytes := 8, zero := V.nilf }) ∧
    (ti P 291 = some { kind := K.func, size := 1, bytes := 8, zero := V.nilf }) ∧
    (ti P 292 = some { kind := K.func, size := 1, bytes := 8, zero := V.nilf }) ∧
    (ti P 294 = some { kind := K.int IntKind.u32, size := 1, bytes := 4, zero := V.int IntKind.u32 0 }) ∧
    (ti P 296 = some { kind := K.func, size := 1, bytes := 8, zero := V.nilf }) ∧
    (ti P 297 = some { kind := K.func, size := 1, bytes := 8, zero := V.nilf }) ∧
    (ti P 298 = some { kind := K.func, size := 1, bytes := 8, zero := V.nilf }) ∧
    (ti P 299 = some { kind := K.int IntKind.i64, size := 1, bytes := 8, zero := V.int IntKind.i64 0 }) ∧
    (ti P 300 = some { kind := K.other, size := 1, bytes := 0, zero := V.any }) ∧
    (ti P 301 = some { kind := K.func, size := 1, bytes := 8, zero := V.nilf }) ∧
    (ti P 302 = some { kind := K.func, size := 1, bytes := 8, zero := V.nilf }) ∧
    (ti P 303 = some { kind := K.func, size := 1, bytes := 8, zero := V.nilf }) ∧
    (ti P 304 = some { kind := K.func, size := 1, bytes := 8, zero := V.nilf }) ∧
    (ti P 305 = some { kind := K.func, size := 1, bytes := 8, zero := V.nilf }) ∧
    (ti P 306 = some { kind := K.struct [(0, 17)], size := 1, bytes := 8, zero := V.agg [V.nilp] }) ∧
    (ti P 307 = some { kind := K.struct [(0, 17)], size := 1, bytes := 8, zero := V.agg [V.nilp] }) ∧
    (ti P 308 = some { kind := K.ptr 364, size := 1, bytes := 8, zero := V.nilp }) ∧
    (ti P 309 = some { kind := K.func, size := 1, bytes := 8, zero := V.nilf }) ∧
    (ti P 310 = some { kind := K.func, size := 1, bytes := 8, zero := V.nilf }) ∧
    (ti P 311 = some { kind := K.func, size := 1, bytes := 8, zero := V.nilf }) ∧
    (ti P 312 = some { kind := K.iface, size := 1, bytes := 16, zero := V.nili }) ∧
    (ti P 313 = some { kind := K.other, size := 1, bytes := 0, zero := V.any }) ∧
    (ti P 314 = some { kind := K.func, size := 1, bytes := 8, zero := V.nilf }) ∧
    (ti P 315 = some { kind := K.iface, size := 1, bytes := 16, zero := V.nili }) ∧
    (ti P 316 = some { kind := K.func, size := 1, bytes := 8, zero := V.nilf }) ∧
    (ti P 317 = some { kind := K.iface, size := 1, bytes := 16, zero := V.nili }) ∧
    (ti P 318 = some { kind := K.slice 102, size := 1, bytes := 24, zero := V.nils }) ∧
    (ti P 319 = some { kind := K.func, size := 1, bytes := 8, zero := V.nilf }) ∧
    (ti P 320 = some { kind := K.int IntKind.i64, size := 1, bytes := 8, zero := V.int IntKind.i64 0 }) ∧
    (ti P 321 = some { kind := K.other, size := 1, bytes := 0, zero := V.any }) ∧
    (ti P 322 = some { kind := K.func, size := 1, bytes := 8, zero := V.nilf }) ∧
    (ti P 323 = some { kind := K.ptr 339, size := 1, bytes := 8, zero := V.nilp }) ∧
    (ti P 324 = some { kind := K.func, size := 1, bytes := 8, zero := V.nilf }) ∧
    (ti P 325 = some { kind := K.func, size := 1, bytes := 8, zero := V.nilf }) ∧
    (ti P 326 = some { kind := K.func, size := 1, bytes := 8, zero := V.nilf }) ∧
    (ti P 327 = some { kind := K.other, size := 1, bytes := 0, zero := V.any }) ∧
    (ti P 328 = some { kind := K.func, size := 1, bytes := 8, zero := V.nilf }) ∧
    (ti P 329 = some { kind := K.int IntKind.u64, size := 1, bytes := 8, zero := V.int IntKind.u64 0 }) ∧
    (ti P 330 = some { kind := K.func, size := 1, bytes := 8, zero := V.nilf }) ∧
    (ti P 331 = some { kind := K.func, size := 1, bytes := 8, zero := V.nilf }) ∧
    (ti P 332 = some { kind := K.func, size := 1, bytes := 8, zero := V.nilf }) ∧
    (ti P 333 = some { kind := K.ptr 3, size := 1, bytes := 8, zero := V.nilp }) ∧
    (ti P 334 = some { kind := K.func, size := 1, bytes := 8, zero := V.nilf }) ∧
    (ti P 335 = some { kind := K.other, size := 1, bytes := 0, zero := V.any }) ∧
    (ti P 336 = some { kind := K.func, size := 1, bytes := 8, zero := V.nilf }) ∧
    (ti P 337 = some { kind := K.func, size := 1, bytes := 8, zero := V.nilf }) ∧
    (ti P 338 = some { kind := K.struct [(0, 9), (1, 9), (2, 102)], size := 3, bytes := 48, zero := V.agg [V.str [], V.str [], V.nili] }) ∧
    (ti P 339 = some { kind := K.struct [(0, 9), (1, 9), (2, 102)], size := 3, bytes := 48, zero := V.agg [V.str [], V.str [], V.nili] }) ∧
    (ti P 340 = some { kind := K.func, size := 1, bytes := 8, zero := V.nilf }) ∧
    (ti P 343 = some { kind := K.ptr 329, size := 1, bytes := 8, zero := V.nilp }) ∧
    (ti P 344 = some { kind := K.func, size := 1, bytes := 8, zero := V.nilf }) ∧
    (ti P 345 = some { kind := K.func, size := 1, bytes := 8, zero := V.nilf }) ∧
    (ti P 346 = some { kind := K.ptr 348, size := 1, bytes := 8, zero := V.nilp }) ∧
    (ti P 347 = some { kind := K.struct [(0, 9)], size := 1, bytes := 16, zero := V.agg [V.str []] }) ∧
    (ti P 348 = some { kind := K.struct [(0, 9)], size := 1, bytes := 16, zero := V.agg [V.str []] }) ∧
    (ti P 349 = some { kind := K.struct [(0, 17), (1, 17), (2, 17), (3, 9)], size := 4, bytes := 40, zero := V.agg [V.nilp, V.nilp, V.nilp, V.str []] }) ∧
    (ti P 350 = some { kind := K.struct [(0, 17), (1, 17), (2, 17), (3, 9)], size := 4, bytes := 40, zero := V.agg [V.nilp, V.nilp, V.nilp, V.str []] }) ∧
    (ti P 351 = some { kind := K.arr 0 16 none, size := 0, bytes := 0, zero := V.agg [] }) ∧
    (ti P 352 = some { kind := K.struct [(0, 351)], size := 0, bytes := 0, zero := V.agg [] }) ∧
    (ti P 353 = some { kind := K.struct [(0, 351)], size := 0, bytes := 0, zero := V.agg [] }) ∧
    (ti P 354 = some { kind := K.func, size := 1, bytes := 8, zero := V.nilf }) ∧
    (ti P 355 = some { kind := K.int IntKind.u8, size := 1, bytes := 1, zero := V.int IntKind.u8 0 }) ∧
    (ti P 356 = some { kind := K.func, size := 1, bytes := 8, zero := V.nilf }) ∧
    (ti P 357 = some { kind := K.int IntKind.i32, size := 1, bytes := 4, zero := V.int IntKind.i32 0 }) ∧
    (ti P 358 = some { kind := K.int IntKind.i32, size := 1, bytes := 4, zero := V.int IntKind.i32 0 }) ∧
    (ti P 359 = some { kind := K.struct [(0, 12), (1, 12), (2, 294), (3, 355), (4, 5), (5, 5), (6, 285), (7, 356), (8, 194), (9, 357), (10, 358)], size := 11, bytes := 48, zero := V.agg [V.int IntKind.u64 0, V.int IntKind.u64 0, V.int IntKind.u32 0, V.int IntKind.u8 0, V.int IntKind.u8 0, V.int IntKind.u8 0, V.int IntKind.u8 0, V.nilf, V.nilp, V.int IntKind.i32 0, V.int IntKind.i32 0] }) ∧
    (ti P 360 = some { kind := K.struct [(0, 12), (1, 12), (2, 294), (3, 355), (4, 5), (5, 5), (6, 285), (7, 356), (8, 194), (9, 357), (10, 358)], size := 11, bytes := 48, zero := V.agg [V.int IntKind.u64 0, V.int IntKind.u64 0, V.int IntKind.u32 0, V.int IntKind.u8 0, V.int IntKind.u8 0, V.int IntKind.u8 0, V.int IntKind.u8 0, V.nilf, V.nilp, V.int IntKind.i32 0, V.int IntKind.i32 0] }) ∧
    (ti P 361 = some { kind := K.func, size := 1, bytes := 8, zero := V.nilf }) ∧
    (ti P 362 = some { kind := K.func, size := 1, bytes := 8, zero := V.nilf }) ∧
    (ti P 363 = some { kind := K.struct [(0, 9), (1, 285)], size := 2, bytes := 24, zero := V.agg [V.str [], V.int IntKind.u8 0] }) ∧
    (ti P 364 = some { kind := K.struct [(0, 9), (1, 285)], size := 2, bytes := 24, zero := V.agg [V.str [], V.int IntKind.u8 0] }) ∧
    (ti P 365 = some { kind := K.ptr 369, size := 1, bytes := 8, zero := V.nilp }) ∧
    (ti P 366 = some { kind := K.func, size := 1, bytes := 8, zero := V.nilf }) ∧
    (ti P 367 = some { kind := K.int IntKind.u16, size := 1, bytes := 2, zero := V.int IntKind.u16 0 }) ∧
    (ti P 368 = some { kind := K.struct [(0, 357), (1, 367), (2, 367), (3, 294), (4, 294)], size := 5, bytes := 16, zero := V.agg [V.int IntKind.i32 0, V.int IntKind.u16 0, V.int IntKind.u16 0, V.int IntKind.u32 0, V.int IntKind.u32 0] }) ∧
    (ti P 369 = some { kind := K.struct [(0, 357), (1, 367), (2, 367), (3, 294), (4, 294)], size := 5, bytes := 16, zero := V.agg [V.int IntKind.i32 0, V.int IntKind.u16 0, V.int IntKind.u16 0, V.int IntKind.u32 0, V.int IntKind.u32 0] }) ∧
    (ti P 370 = some { kind := K.slice 373, size := 1, bytes := 24, zero := V.nils }) ∧
    (ti P 371 = some { kind := K.int IntKind.i32, size := 1, bytes := 4, zero := V.int IntKind.i32 0 }) ∧
    (ti P 372 = some { kind := K.struct [(0, 357), (1, 358), (2, 371), (3, 371)], size := 4, bytes := 16, zero := V.agg [V.int IntKind.i32 0, V.int IntKind.i32 0, V.int IntKind.i32 0, V.int IntKind.i32 0] }) ∧
    (ti P 373 = some { kind := K.struct [(0, 357), (1, 358), (2, 371), (3, 371)], size := 4, bytes := 16, zero := V.agg [V.int IntKind.i32 0, V.int IntKind.i32 0, V.int IntKind.i32 0, V.int IntKind.i32 0] }) ∧
    (ti P 374 = some { kind := K.ptr 102, size := 1, bytes := 8, zero := V.nilp }) :=
  ⟨rfl, rfl, rfl, rfl, rfl, rfl, rfl, rfl, rfl, rfl, rfl, rfl, rfl, rfl, rfl, rfl, rfl, rfl, rfl, rfl, rfl, rfl, rfl, rfl, rfl, rfl, rfl, rfl, rfl, rfl, rfl, rfl, rfl, rfl, rfl, rfl, rfl, rfl, rfl, rfl, rfl, rfl, rfl, rfl, rfl, rfl, rfl, rfl, rfl, rfl, rfl, rfl, rfl, rfl, rfl, rfl, rfl, rfl, rfl, rfl, rfl, rfl, rfl, rfl, rfl, rfl, rfl, rfl, rfl, rfl, rfl, rfl, rfl, rfl, rfl, rfl, rfl, rfl, rfl, rfl, rfl, rfl, rfl, rfl, rfl, rfl, rfl, rfl, rfl, rfl, rfl, rfl, rfl, rfl, rfl, rfl, rfl, rfl, rfl, rfl, rfl, rfl, rfl, rfl, rfl, rfl, rfl, rfl, rfl, rfl, rfl, rfl, rfl, rfl, rfl, rfl, rfl, rfl, rfl, rfl, rfl, rfl, rfl, rfl, rfl, rfl, rfl, rfl, rfl, rfl, rfl, rfl, rfl, rfl, rfl, rfl, rfl, rfl, rfl, rfl, rfl, rfl, rfl, rfl, rfl, rfl, rfl, rfl, rfl, rfl, rfl, rfl, rfl, rfl, rfl, rfl, rfl, rfl, rfl, rfl, rfl, rfl, rfl, rfl, rfl, rfl, rfl, rfl, rfl, rfl, rfl, rfl, rfl, rfl, rfl, rfl, rfl, rfl, rfl, rfl, rfl, rfl, rfl, rfl, rfl, rfl, rfl, rfl, rfl, rfl, rfl, rfl, rfl, rfl, rfl, rfl, rfl, rfl, rfl, rfl, rfl, rfl, rfl, rfl, rfl, rfl, rfl, rfl, rfl, rfl, rfl, rfl, rfl, rfl, rfl, rfl, rfl, rfl, rfl, rfl, rfl, rfl, rfl, rfl, rfl, rfl, rfl, rfl, rfl, rfl, rfl, rfl, rfl, rfl, rfl, rfl, rfl, rfl, rfl, rfl, rfl, rfl, rfl, rfl, rfl, rfl, rfl, rfl, rfl, rfl, rfl, rfl, rfl, rfl, rfl, rfl, rfl, rfl, rfl, rfl, rfl, rfl, rfl, rfl, rfl, rfl, rfl, rfl, rfl, rfl, rfl, rfl, rfl, rfl, rfl, rfl, rfl, rfl, rfl, rfl, rfl, rfl, rfl, rfl, rfl, rfl, rfl, rfl, rfl, rfl, rfl, rfl, rfl, rfl, rfl, rfl, rfl, rfl, rfl, rfl, rfl, rfl, rfl, rfl, rfl, rfl, rfl, rfl, rfl, rfl, rfl, rfl, rfl, rfl, rfl, rfl, rfl, rfl, rfl, rfl, rfl, rfl, rfl, rfl, rfl, rfl, rfl, rfl, rfl, rfl, rfl, rfl, rfl, rfl, rfl, rfl, rfl, rfl, rfl, rfl, rfl, rfl, rfl, rfl, rfl, rfl, rfl, rfl, rfl, rfl, rfl, rfl, rfl, rfl, rfl, rfl, rfl, rfl, rfl, rfl, rfl, rfl, rfl, rfl, rfl, rfl, rfl, rfl, rfl, rfl⟩
set_option maxRecDepth 100000 in
theorem ens : (enters P 2 = true) ∧
    (enters P 3 = true) ∧
    (enters P 4 = true) ∧
    (enters P 5 = true) ∧
    (enters P 6 = true) ∧
    (enters P 7 = true) ∧
    (enters P 8 = true) ∧
    (enters P 9 = true) ∧
    (enters P 10 = true) ∧
    (enters P 11 = true) ∧
    (enters P 12 = true) ∧
    (enters P 13 = true) ∧
    (enters P 14 = true) ∧
    (enters P 15 = true) ∧
    (enters P 16 = true) ∧
    (enters P 17 = true) ∧
    (enters P 18 = true) ∧
    (enters P 19 = true) ∧
    (enters P 20 = true) ∧
    (enters P 21 = true) ∧
    (enters P 22 = true) ∧
    (enters P 23 = true) ∧
    (enters P 24 = true) ∧
    (enters P 25 = true) ∧
    (enters P 26 = true) ∧
    (enters P 27 = true) ∧
    (enters P 28 = true) ∧
    (enters P 29 = true) ∧
    (enters P 30 = true) ∧
    (enters P 31 = true) ∧
    (enters P 32 = true) ∧
    (enters P 33 = true) ∧
    (enters P 34 = true) ∧
    (enters P 35 = true) ∧
    (enters P 36 = true) ∧
    (enters P 37 = true) ∧
    (enters P 38 = true) ∧
    (enters P 39 = true) ∧
    (enters P 40 = true) ∧
    (enters P 41 = true) ∧
    (enters P 42 = true) ∧
    (enters P 43 = true) ∧
    (enters P 44 = true) ∧
    (enters P 45 = true) ∧
    (enters P 46 = true) ∧
    (enters P 47 = true) ∧
    (enters P 48 = true) ∧
    (enters P 49 = true) ∧
    (enters P 50 = true) ∧
    (enters P 51 = true) ∧
    (enters P 52 = true) ∧
    (enters P 53 = true) ∧
    (enters P 54 = true) ∧
    (enters P 55 = true) ∧
    (enters P 56 = true) ∧
    (enters P 57 = true) ∧
    (enters P 58 = true) ∧
    (enters P 59 = true) ∧
    (enters P 60 = true) ∧
    (enters P 61 = true) ∧
    (enters P 62 = true) ∧
    (enters P 63 = true) ∧
    (enters P 64 = true) ∧
    (enters P 65 = true) ∧
    (enters P 66 = true) ∧
    (enters P 67 = true) ∧
    (enters P 68 = true) ∧
    (enters P 69 = true) ∧
    (enters P 70 = true) ∧
    (enters P 71 = true) ∧
    (enters P 72 = true) ∧
    (enters P 73 = true) ∧
    (enters P 74 = true) ∧
    (enters P 75 = true) ∧
    (enters P 76 = true) ∧
    (enters P 77 = true) ∧
    (enters P 78 = true) ∧
    (enters P 79 = true) ∧
    (enters P 80 = true) ∧
    (enters P 81 = true) ∧
    (enters P 82 = true) ∧
    (enters P 83 = true) ∧
    (enters P 84 = true) ∧
    (enters P 85 = true) ∧
    (enters P 86 = true) ∧
    (enters P 87 = true) ∧
    (enters P 88 = true) ∧
    (enters P 89 = true) ∧
    (enters P 90 = true) ∧
    (enters P 91 = true) ∧
    (enters P 92 = true) ∧
    (enters P 93 = true) ∧
    (enters P 94 = true) ∧
    (enters P 95 = true) ∧
    (enters P 96 = true) ∧
    (enters P 97 = true) ∧
    (enters P 98 = true) ∧
    (enters P 99 = true) ∧
    (enters P 100 = true) ∧
    (enters P 101 = true) ∧
    (enters P 102 = true) ∧
    (enters P 103 = true) ∧
    (enters P 104 = true) ∧
    (enters P 105 = true) ∧
    (enters P 106 = true) ∧
    (enters P 107 = true) ∧
    (enters P 108 = true) ∧
    (enters P 109 = true) ∧
    (enters P 110 = true) ∧
    (enters P 111 = true) ∧
    (enters P 112 = true) ∧
    (enters P 113 = true) ∧
    (enters P 114 = true) ∧
    (enters P 115 = true) ∧
    (enters P 116 = true) ∧
    (enters P 117 = true) ∧
    (enters P 118 = true) ∧
    (enters P 119 = true) ∧
    (enters P 120 = true) ∧
    (enters P 121 = true) ∧
    (enters P 122 = true) ∧
    (enters P 123 = true) ∧
    (enters P 124 = true) ∧
    (enters P 125 = true) ∧
    (enters P 126 = true) ∧
    (enters P 127 = true) ∧
    (enters P 128 = true) ∧
    (enters P 129 = true) ∧
    (enters P 130 = true) ∧
    (enters P 131 = true) ∧
    (enters P 132 = true) ∧
    (enters P 133 = true) ∧
    (enters P 134 = true) ∧
    (enters P 135 = true) ∧
    (enters P 136 = true) ∧
    (enters P 137 = true) ∧
    (enters P 138 = true) ∧
    (enters P 139 = true) ∧
    (enters P 140 = true) ∧
    (enters P 141 = true) ∧
    (enters P 142 = true) ∧
    (enters P 143 = true) ∧
    (enters P 144 = true) ∧
    (enters P 145 = true) ∧
    (enters P 146 = true) ∧
    (enters P 147 = true) ∧
    (enters P 148 = true) ∧
    (enters P 149 = true) ∧
    (enters P 150 = true) ∧
    (enters P 151 = true) ∧
    (enters P 152 = true) ∧
    (enters P 153 = true) ∧
    (enters P 154 = true) ∧
    (enters P 155 = true) ∧
    (enters P 156 = true) ∧
    (enters P 157 = true) ∧
    (enters P 158 = true) ∧
    (enters P 159 = true) ∧
    (enters P 160 = true) ∧
    (enters P 161 = true) ∧
    (enters P 162 = true) ∧
    (enters P 163 = true) ∧
    (enters P 164 = true) ∧
    (enters P 165 = true) ∧
    (enters P 166 = true) ∧
    (enters P 167 = true) ∧
    (enters P 168 = true) ∧
    (enters P 169 = true) ∧
    (enters P 170 = true) ∧
    (enters P 171 = true) ∧
    (enters P 172 = true) ∧
    (enters P 173 = true) ∧
    (enters P 174 = true) ∧
    (enters P 175 = true) ∧
    (enters P 176 = true) ∧
    (enters P 177 = true) ∧
    (enters P 178 = true) ∧
    (enters P 179 = true) ∧
    (enters P 180 = true) ∧
    (enters P 181 = true) ∧
    (enters P 182 = true) ∧
    (enters P 183 = true) ∧
    (enters P 184 = true) ∧
    (enters P 185 = true) ∧
    (enters P 186 = true) ∧
    (enters P 187 = true) ∧
    (enters P 188 = true) ∧
    (enters P 189 = true) ∧
    (enters P 190 = true) ∧
    (enters P 191 = true) ∧
    (enters P 193 = true) ∧
    (enters P 194 = true) ∧
    (enters P 195 = true) ∧
    (enters P 196 = true) ∧
    (enters P 197 = true) ∧
    (enters P 198 = true) ∧
    (enters P 199 = true) ∧
    (enters P 200 = true) ∧
    (enters P 201 = true) ∧
    (enters P 202 = true) ∧
    (enters P 203 = true) ∧
    (enters P 204 = true) ∧
    (enters P 205 = true) ∧
    (enters P 206 = true) ∧
    (enters P 207 = true) ∧
    (enters P 208 = true) ∧
    (enters P 209 = true) ∧
    (enters P 210 = true) ∧
    (enters P 211 = true) ∧
    (enters P 212 = true) ∧
    (enters P 213 = true) ∧
    (enters P 214 = true) ∧
    (enters P 215 = true) ∧
    (enters P 216 = true) ∧
    (enters P 217 = true) ∧
    (enters P 218 = true) ∧
    (enters P 219 = true) ∧
    (enters P 220 = true) ∧
    (enters P 221 = true) ∧
    (enters P 222 = true) ∧
    (enters P 223 = true) ∧
    (enters P 224 = true) ∧
    (enters P 225 = true) ∧
    (enters P 226 = true) ∧
    (enters P 227 = true) ∧
    (enters P 228 = true) ∧
    (enters P 229 = true) ∧
    (enters P 230 = true) ∧
    (enters P 231 = true) ∧
    (enters P 232 = true) ∧
    (enters P 233 = true) ∧
    (enters P 237 = true) ∧
    (enters P 238 = true) ∧
    (enters P 239 = true) ∧
    (enters P 241 = true) ∧
    (enters P 242 = true) ∧
    (enters P 243 = true) ∧
    (enters P 244 = true) ∧
    (enters P 245 = true) ∧
    (enters P 246 = true) ∧
    (enters P 247 = true) ∧
    (enters P 248 = true) ∧
    (enters P 250 = true) ∧
    (enters P 252 = true) ∧
    (enters P 253 = true) ∧
    (enters P 254 = true) ∧
    (enters P 255 = true) ∧
    (enters P 256 = true) ∧
    (enters P 257 = true) ∧
    (enters P 258 = true) ∧
    (enters P 259 = true) ∧
    (enters P 260 = true) ∧
    (enters P 261 = true) ∧
    (enters P 262 = true) ∧
    (enters P 263 = true) ∧
    (enters P 264 = true) ∧
    (enters P 268 = true) ∧
    (enters P 269 = true) ∧
    (enters P 270 = true) ∧
    (enters P 271 = true) ∧
    (enters P 272 = true) ∧
    (enters P 274 = true) ∧
    (enters P 275 = true) ∧
    (enters P 276 = true) ∧
    (enters P 277 = true) ∧
    (enters P 278 = true) ∧
    (enters P 279 = true) ∧
    (enters P 280 = true) ∧
    (enters P 281 = true) ∧
    (enters P 282 = true) ∧
    (enters P 283 = true) ∧
    (enters P 284 = true) ∧
    (enters P 285 = true) ∧
    (enters P 286 = true) ∧
    (enters P 287 = true) ∧
    (enters P 288 = true) ∧
    (enters P 289 = true) ∧
    (enters P 290 = true) ∧
    (enters P 291 = true) ∧
    (enters P 292 = true) ∧
    (enters P 313 = true) ∧
    (enters P 331 = true) ∧
    (enters P 343 = true) :=
  ⟨rfl, rfl, rfl, rfl, rfl, rfl, rfl, rfl, rfl, rfl, rfl, rfl, rfl, rfl, rfl, rfl, rfl, rfl, rfl, rfl, rfl, rfl, rfl, rfl, rfl, rfl, rfl, rfl, rfl, rfl, rfl, rfl, rfl, rfl, rfl, rfl, rfl, rfl, rfl, rfl, rfl, rfl, rfl, rfl, rfl, rfl, rfl, rfl, rfl, rfl, rfl, rfl, rfl, rfl, rfl, rfl, rfl, rfl, rfl, rfl, rfl, rfl, rfl, rfl, rfl, rfl, rfl, rfl, rfl, rfl, rfl, rfl, rfl, rfl, rfl, rfl, rfl, rfl, rfl, rfl, rfl, rfl, rfl, rfl, rfl, rfl, rfl, rfl, rfl, rfl, rfl, rfl, rfl, rfl, rfl, rfl, rfl, rfl, rfl, rfl, rfl, rfl, rfl, rfl, rfl, rfl, rfl, rfl, rfl, rfl, rfl, rfl, rfl, rfl, rfl, rfl, rfl, rfl, rfl, rfl, rfl, rfl, rfl, rfl, rfl, rfl, rfl, rfl, rfl, rfl, rfl, rfl, rfl, rfl, rfl, rfl, rfl, rfl, rfl, rfl, rfl, rfl, rfl, rfl, rfl, rfl, rfl, rfl, rfl, rfl, rfl, rfl, rfl, rfl, rfl, rfl, rfl, rfl, rfl, rfl, rfl, rfl, rfl, rfl, rfl, rfl, rfl, rfl, rfl, rfl, rfl, rfl, rfl, rfl, rfl, rfl, rfl, rfl, rfl, rfl, rfl, rfl, rfl, rfl, rfl, rfl, rfl, rfl, rfl, rfl, rfl, rfl, rfl, rfl, rfl, rfl, rfl, rfl, rfl, rfl, rfl, rfl, rfl, rfl, rfl, rfl, rfl, rfl, rfl, rfl, rfl, rfl, rfl, rfl, rfl, rfl, rfl, rfl, rfl, rfl, rfl, rfl, rfl, rfl, rfl, rfl, rfl, rfl, rfl, rfl, rfl, rfl, rfl, rfl, rfl, rfl, rfl, rfl, rfl, rfl, rfl, rfl, rfl, rfl, rfl, rfl, rfl, rfl, rfl, rfl, rfl, rfl, rfl, rfl, rfl, rfl, rfl, rfl, rfl, rfl, rfl, rfl, rfl, rfl, rfl, rfl, rfl, rfl, rfl, rfl, rfl, rfl, rfl, rfl, rfl, rfl, rfl, rfl, rfl, rfl, rfl, rfl, rfl⟩
set_option maxRecDepth 100000 in
theorem nts : (Tryz.f2.ntmps = 1) ∧
    (Tryz.f3.ntmps = 47) ∧
    (Tryz.f4.ntmps = 82) ∧
    (Tryz.f5.ntmps = 90) ∧
    (Tryz.f6.ntmps = 64) ∧
    (Tryz.f7.ntmps = 135) ∧
    (Tryz.f8.ntmps = 82) ∧
    (Tryz.f9.ntmps = 133) ∧
    (Tryz.f10.ntmps = 94) ∧
    (Tryz.f11.ntmps = 91) ∧
    (Tryz.f12.ntmps = 165) ∧
    (Tryz.f13.ntmps = 81) ∧
    (Tryz.f14.ntmps = 118) ∧
    (Tryz.f15.ntmps = 29) ∧
    (Tryz.f16.ntmps = 151) ∧
    (Tryz.f17.ntmps = 131) ∧
    (Tryz.f18.ntmps = 14) ∧
    (Tryz.f19.ntmps = 51) ∧
    (Tryz.f20.ntmps = 19) ∧
    (Tryz.f21.ntmps = 143) ∧
    (Tryz.f22.ntmps = 31) ∧
    (Tryz.f23.ntmps = 38) ∧
    (Tryz.f24.ntmps = 123) ∧
    (Tryz.f25.ntmps = 108) ∧
    (Tryz.f26.ntmps = 77) ∧
    (Tryz.f27.ntmps = 39) ∧
    (Tryz.f28.ntmps = 16) ∧
    (Tryz.f29.ntmps = 35) ∧
    (Tryz.f30.ntmps = 95) ∧
    (Tryz.f31.ntmps = 64) ∧
    (Tryz.f32.ntmps = 10) ∧
    (Tryz.f33.ntmps = 172) ∧
    (Tryz.f34.ntmps = 147) ∧
    (Tryz.f35.ntmps = 32) ∧
    (Tryz.f36.ntmps = 52) ∧
    (Tryz.f37.ntmps = 10) ∧
    (Tryz.f38.ntmps = 76) ∧
    (Tryz.f39.ntmps = 22) ∧
    (Tryz.f40.ntmps = 43) ∧
    (Tryz.f41.ntmps = 52) ∧
    (Tryz.f42.ntmps = 88) ∧
    (Tryz.f43.ntmps = 92) ∧
    (Tryz.f44.ntmps = 47) ∧
    (Tryz.f45.ntmps = 45) ∧
    (Tryz.f46.ntmps = 26) ∧
    (Tryz.f47.ntmps = 27) ∧
    (Tryz.f48.ntmps = 58) ∧
    (Tryz.f49.ntmps = 63) ∧
    (Tryz.f50.ntmps = 24) ∧
    (Tryz.f51.ntmps = 110) ∧
    (Tryz.f52.ntmps = 31) ∧
    (Tryz.f53.ntmps = 22) ∧
    (Tryz.f54.ntmps = 80) ∧
    (Tryz.f55.ntmps = 26) ∧
    (Tryz.f56.ntmps = 27) ∧
    (Tryz.f57.ntmps = 57) ∧
    (Tryz.f58.ntmps = 19) ∧
    (Tryz.f59.ntmps = 30) ∧
    (Tryz.f60.ntmps = 14) ∧
    (Tryz.f61.ntmps = 22) ∧
    (Tryz.f62.ntmps = 32) ∧
    (Tryz.f63.ntmps = 43) ∧
    (Tryz.f64.ntmps = 35) ∧
    (Tryz.f65.ntmps = 5) ∧
    (Tryz.f66.ntmps = 84) ∧
    (Tryz.f67.ntmps = 20) ∧
    (Tryz.f68.ntmps = 84) ∧
    (Tryz.f69.ntmps = 17) ∧
    (Tryz.f70.ntmps = 78) ∧
    (Tryz.f71.ntmps = 17) ∧
    (Tryz.f72.ntmps = 42) ∧
    (Tryz.f73.ntmps = 30) ∧
    (Tryz.f74.ntmps = 133) ∧
    (Tryz.f75.ntmps = 36) ∧
    (Tryz.f76.ntmps = 12) ∧
    (Tryz.f77.ntmps = 26) ∧
    (Tryz.f78.ntmps = 26) ∧
    (Tryz.f79.ntmps = 26) ∧
    (Tryz.f80.ntmps = 21) ∧
    (Tryz.f81.ntmps = 10) ∧
    (Tryz.f82.ntmps = 57) ∧
    (Tryz.f83.ntmps = 4) ∧
    (Tryz.f84.ntmps = 18) ∧
    (Tryz.f85.ntmps = 76) ∧
    (Tryz.f86.ntmps = 103) ∧
    (Tryz.f87.ntmps = 32) ∧
    (Tryz.f88.ntmps = 77) ∧
    (Tryz.f89.ntmps = 16) ∧
    (Tryz.f90.ntmps = 25) ∧
    (Tryz.f91.ntmps = 21) ∧
    (Tryz.f92.ntmps = 10) ∧
    (Tryz.f93.ntmps = 15) ∧
    (Tryz.f94.ntmps = 49) ∧
    (Tryz.f95.ntmps = 62) ∧
    (Tryz.f96.ntmps = 18) ∧
    (Tryz.f97.ntmps = 22) ∧
    (Tryz.f98.ntmps = 12) ∧
    (Tryz.f99.ntmps = 41) ∧
    (Tryz.f100.ntmps = 34) ∧
    (Tryz.f101.ntmps = 16) ∧
    (Tryz.f102.ntmps = 92) ∧
    (Tryz.f103.ntmps = 60) ∧
    (Tryz.f104.ntmps = 82) ∧
    (Tryz.f105.ntmps = 61) ∧
    (Tryz.f106.ntmps = 52) ∧
    (Tryz.f107.ntmps = 12) ∧
    (Tryz.f108.ntmps = 19) ∧
    (Tryz.f109.ntmps = 27) ∧
    (Tryz.f110.ntmps = 24) ∧
    (Tryz.f111.ntmps = 19) ∧
    (Tryz.f112.ntmps = 28) ∧
    (Tryz.f113.ntmps = 26) ∧
    (Tryz.f114.ntmps = 9) ∧
    (Tryz.f115.ntmps = 5) ∧
    (Tryz.f116.ntmps = 9) ∧
    (Tryz.f117.ntmps = 17) ∧
    (Tryz.f118.ntmps = 18) ∧
    (Tryz.f119.ntmps = 25) ∧
    (Tryz.f120.ntmps = 42) ∧
    (Tryz.f121.ntmps = 15) ∧
    (Tryz.f122.ntmps = 43) ∧
    (Tryz.f123.ntmps = 28) ∧
    (Tryz.f124.ntmps = 32) ∧
    (Tryz.f125.ntmps = 50) ∧
    (Tryz.f126.ntmps = 20) ∧
    (Tryz.f127.ntmps = 57) ∧
    (Tryz.f128.ntmps = 21) ∧
    (Tryz.f129.ntmps = 14) ∧
    (Tryz.f130.ntmps = 6) ∧
    (Tryz.f131.ntmps = 25) ∧
    (Tryz.f132.ntmps = 111) ∧
    (Tryz.f133.ntmps = 9) ∧
    (Tryz.f134.ntmps = 20) ∧
    (Tryz.f135.ntmps = 32) ∧
    (Tryz.f136.ntmps = 5) ∧
    (Tryz.f137.ntmps = 5) ∧
    (Tryz.f138.ntmps = 19) ∧
    (Tryz.f139.ntmps = 18) ∧
    (Tryz.f140.ntmps = 8) ∧
    (Tryz.f141.ntmps = 28) ∧
    (Tryz.f142.ntmps = 31) ∧
    (Tryz.f143.ntmps = 4) ∧
    (Tryz.f144.ntmps = 54) ∧
    (Tryz.f145.ntmps = 4) ∧
    (Tryz.f146.ntmps = 25) ∧
    (Tryz.f147.ntmps = 36) ∧
    (Tryz.f148.ntmps = 94) ∧
    (Tryz.f149.ntmps = 18) ∧
    (Tryz.f150.ntmps = 22) ∧
    (Tryz.f151.ntmps = 27) ∧
    (Tryz.f152.ntmps = 75) ∧
    (Tryz.f153.ntmps = 29) ∧
    (Tryz.f154.ntmps = 38) ∧
    (Tryz.f155.ntmps = 9) ∧
    (Tryz.f156.ntmps = 4) ∧
    (Tryz.f157.ntmps = 125) ∧
    (Tryz.f158.ntmps = 80) ∧
    (Tryz.f159.ntmps = 19) ∧
    (Tryz.f160.ntmps = 83) ∧
    (Tryz.f161.ntmps = 23) ∧
    (Tryz.f162.ntmps = 11) ∧
    (Tryz.f163.ntmps = 9) ∧
    (Tryz.f164.ntmps = 9) ∧
    (Tryz.f165.ntmps = 50) ∧
    (Tryz.f166.ntmps = 8) ∧
    (Tryz.f167.ntmps = 25) ∧
    (Tryz.f168.ntmps = 6) ∧
    (Tryz.f169.ntmps = 37) ∧
    (Tryz.f170.ntmps = 20) ∧
    (Tryz.f171.ntmps = 28) ∧
    (Tryz.f172.ntmps = 16) ∧
    (Tryz.f173.ntmps = 18) ∧
    (Tryz.f174.ntmps = 12) ∧
    (Tryz.f175.ntmps = 23) ∧
    (Tryz.f176.ntmps = 21) ∧
    (Tryz.f177.ntmps = 65) ∧
    (Tryz.f178.ntmps = 14) ∧
    (Tryz.f179.ntmps = 14) ∧
    (Tryz.f180.ntmps = 9) ∧
    (Tryz.f181.ntmps = 4) ∧
    (Tryz.f182.ntmps = 9) ∧
    (Tryz.f183.ntmps = 19) ∧
    (Tryz.f184.ntmps = 35) ∧
    (Tryz.f185.ntmps = 19) ∧
    (Tryz.f186.ntmps = 34) ∧
    (Tryz.f187.ntmps = 8) ∧
    (Tryz.f188.ntmps = 36) ∧
    (Tryz.f189.ntmps = 13) ∧
    (Tryz.f190.ntmps = 5) ∧
    (Tryz.f191.ntmps = 19) ∧
    (Tryz.f193.ntmps = 54) ∧
    (Tryz.f194.ntmps = 9) ∧
    (Tryz.f195.ntmps = 6) ∧
    (Tryz.f196.ntmps = 18) ∧
    (Tryz.f197.ntmps = 19) ∧
    (Tryz.f198.ntmps = 27) ∧
    (Tryz.f199.ntmps = 25) ∧
    (Tryz.f200.ntmps = 17) ∧
    (Tryz.f201.ntmps = 13) ∧
    (Tryz.f202.ntmps = 78) ∧
    (Tryz.f203.ntmps = 19) ∧
    (Tryz.f204.ntmps = 8) ∧
    (Tryz.f205.ntmps = 50) ∧
    (Tryz.f206.ntmps = 4) ∧
    (Tryz.f207.ntmps = 57) ∧
    (Tryz.f208.ntmps = 28) ∧
    (Tryz.f209.ntmps = 28) ∧
    (Tryz.f210.ntmps = 18) ∧
    (Tryz.f211.ntmps = 22) ∧
    (Tryz.f212.ntmps = 5) ∧
    (Tryz.f213.ntmps = 11) ∧
    (Tryz.f214.ntmps = 16) ∧
    (Tryz.f215.ntmps = 6) ∧
    (Tryz.f216.ntmps = 42) ∧
    (Tryz.f217.ntmps = 18) ∧
    (Tryz.f218.ntmps = 8) ∧
    (Tryz.f219.ntmps = 27) ∧
    (Tryz.f220.ntmps = 23) ∧
    (Tryz.f221.ntmps = 17) ∧
    (Tryz.f222.ntmps = 15) ∧
    (Tryz.f223.ntmps = 15) ∧
    (Tryz.f224.ntmps = 167) ∧
    (Tryz.f225.ntmps = 102) ∧
    (Tryz.f226.ntmps = 19) ∧
    (Tryz.f227.ntmps = 30) ∧
    (Tryz.f228.ntmps = 19) ∧
    (Tryz.f229.ntmps = 34) ∧
    (Tryz.f230.ntmps = 36) ∧
    (Tryz.f231.ntmps = 13) ∧
    (Tryz.f232.ntmps = 134) ∧
    (Tryz.f233.ntmps = 8) ∧
    (Tryz.f237.ntmps = 62) ∧
    (Tryz.f238.ntmps = 77) ∧
    (Tryz.f239.ntmps = 43) ∧
    (Tryz.f241.ntmps = 143) ∧
    (Tryz.f242.ntmps = 9) ∧
    (Tryz.f243.ntmps = 8) ∧
    (Tryz.f244.ntmps = 6) ∧
    (Tryz.f245.ntmps = 25) ∧
    (Tryz.f246.ntmps = 4) ∧
    (Tryz.f247.ntmps = 8) ∧
    (Tryz.f248.ntmps = 8) ∧
    (Tryz.f250.ntmps = 10) ∧
    (Tryz.f252.ntmps = 8) ∧
    (Tryz.f253.ntmps = 19) ∧
    (Tryz.f254.ntmps = 87) ∧
    (Tryz.f255.ntmps = 49) ∧
    (Tryz.f256.ntmps = 56) ∧
    (Tryz.f257.ntmps = 65) ∧
    (Tryz.f258.ntmps = 57) ∧
    (Tryz.f259.ntmps = 32) ∧
    (Tryz.f260.ntmps = 133) ∧
    (Tryz.f261.ntmps = 17) ∧
    (Tryz.f262.ntmps = 84) ∧
    (Tryz.f263.ntmps = 168) ∧
    (Tryz.f264.ntmps = 19) ∧
    (Tryz.f268.ntmps = 73) ∧
    (Tryz.f269.ntmps = 11) ∧
    (Tryz.f270.ntmps = 11) ∧
    (Tryz.f271.ntmps = 16) ∧
    (Tryz.f272.ntmps = 16) ∧
    (Tryz.f274.ntmps = 6) ∧
    (Tryz.f275.ntmps = 81) ∧
    (Tryz.f276.ntmps = 21) ∧
    (Tryz.f277.ntmps = 14) ∧
    (Tryz.f278.ntmps = 14) ∧
    (Tryz.f279.ntmps = 40) ∧
    (Tryz.f280.ntmps = 76) ∧
    (Tryz.f281.ntmps = 7) ∧
    (Tryz.f282.ntmps = 33) ∧
    (Tryz.f283.ntmps = 15) ∧
    (Tryz.f284.ntmps = 36) ∧
    (Tryz.f285.ntmps = 6) ∧
    (Tryz.f286.ntmps = 172) ∧
    (Tryz.f287.ntmps = 18) ∧
    (Tryz.f288.ntmps = 7) ∧
    (Tryz.f289.ntmps = 39) ∧
    (Tryz.f290.ntmps = 28) ∧
    (Tryz.f291.ntmps = 5) ∧
    (Tryz.f292.ntmps = 94) ∧
    (Tryz.f313.ntmps = 7) ∧
    (Tryz.f331.ntmps = 7) ∧
    (Tryz.f343.ntmps = 9) :=
  ⟨rfl, rfl, rfl, rfl, rfl, rfl, rfl, rfl, rfl, rfl, rfl, rfl, rfl, rfl, rfl, rfl, rfl, rfl, rfl, rfl, rfl, rfl, rfl, rfl, rfl, rfl, rfl, rfl, rfl, rfl, rfl, rfl, rfl, rfl, rfl, rfl, rfl, rfl, rfl, rfl, rfl, rfl, rfl, rfl, rfl, rfl, rfl, rfl, rfl, rfl, rfl, rfl, rfl, rfl, rfl, rfl, rfl, rfl, rfl, rfl, rfl, rfl, rfl, rfl, rfl, rfl, rfl, rfl, rfl, rfl, rfl, rfl, rfl, rfl, rfl, rfl, rfl, rfl, rfl, rfl, rfl, rfl, rfl, rfl, rfl, rfl, rfl, rfl, rfl, rfl, rfl, rfl, rfl, rfl, rfl, rfl, rfl, rfl, rfl, rfl, rfl, rfl, rfl, rfl, rfl, rfl, rfl, rfl, rfl, rfl, rfl, rfl, rfl, rfl, rfl, rfl, rfl, rfl, rfl, rfl, rfl, rfl, rfl, rfl, rfl, rfl, rfl, rfl, rfl, rfl, rfl, rfl, rfl, rfl, rfl, rfl, rfl, rfl, rfl, rfl, rfl, rfl, rfl, rfl, rfl, rfl, rfl, rfl, rfl, rfl, rfl, rfl, rfl, rfl, rfl, rfl, rfl, rfl, rfl, rfl, rfl, rfl, rfl, rfl, rfl, rfl, rfl, rfl, rfl, rfl, rfl, rfl, rfl, rfl, rfl, rfl, rfl, rfl, rfl, rfl, rfl, rfl, rfl, rfl, rfl, rfl, rfl, rfl, rfl, rfl, rfl, rfl, rfl, rfl, rfl, rfl, rfl, rfl, rfl, rfl, rfl, rfl, rfl, rfl, rfl, rfl, rfl, rfl, rfl, rfl, rfl, rfl, rfl, rfl, rfl, rfl, rfl, rfl, rfl, rfl, rfl, rfl, rfl, rfl, rfl, rfl, rfl, rfl, rfl, rfl, rfl, rfl, rfl, rfl, rfl, rfl, rfl, rfl, rfl, rfl, rfl, rfl, rfl, rfl, rfl, rfl, rfl, rfl, rfl, rfl, rfl, rfl, rfl, rfl, rfl, rfl, rfl, rfl, rfl, rfl, rfl, rfl, rfl, rfl, rfl, rfl, rfl, rfl, rfl, rfl, rfl, rfl, rfl, rfl, rfl, rfl, rfl, rfl, rfl, rfl, rfl, rfl, rfl⟩
def sp :=
  PLift.up <|
  And.intro TEP <|
  And.intro TEtl <|
  And.intro tis <|
  And.intro ens nts
end Go.Proofs.YtboolnpmlmgpkaaGreatDoor
