/- What the program is made of. -/
import Derived.Test.YtbikgbnhngmohaaDoorProg
import Derived.Test.YtbikgbnhngmohaaDoorA8
import Derived.Lib.LaidTab
import Derived.Lib.ItoaNum
set_option linter.unusedVariables false
namespace Go.Proofs.YtbikgbnhngmohaaDoor
open Go Go.Proofs Go.Abs
noncomputable abbrev P := Go.Proofs.Tryd.prog
/-- What the package-level variables hold. -/
def gxs : Nat → Option (Array Value → Prop)
  | 0 => some fun cs => cs = #[.iface 75 (.agg #[.pointer (some ⟨6, 42, none⟩)])]
  | 1 => some fun cs => cs = (Lib.pow10Tab.map fun z => Value.int .u64 z).toArray
  | 2 => some fun cs => ∃ te pe, cs = #[.iface te pe]
  | 3 => some fun cs => ∃ te pe, cs = #[.iface te pe]
  | _ => none
noncomputable def TE : E := { P := P, gx := gxs }
theorem TEP : TE.P = P := rfl
theorem mixed : TE.P.follows .mixedOrders = true := rfl
set_option maxRecDepth 100000 in
theorem tis : (ti P 0 = some { kind := K.other, size := 1, bytes := 0, zero := V.any }) ∧
    (ti P 1 = some { kind := K.func, size := 1, bytes := 8, zero := V.nilf }) ∧
    (ti P 2 = some { kind := K.int IntKind.i64, size := 1, bytes := 8, zero := V.int IntKind.i64 0 }) ∧
    (ti P 3 = some { kind := K.int IntKind.i64, size := 1, bytes := 8, zero := V.int IntKind.i64 0 }) ∧
    (ti P 4 = some { kind := K.bool, size := 1, bytes := 1, zero := V.bool false }) ∧
    (ti P 5 = some { kind := K.int IntKind.u8, size := 1, bytes := 1, zero := V.int IntKind.u8 0 }) ∧
    (ti P 6 = some { kind := K.int IntKind.u8, size := 1, bytes := 1, zero := V.int IntKind.u8 0 }) ∧
    (ti P 7 = some { kind := K.struct [(0, 2), (1, 3), (2, 4), (3, 6)], size := 4, bytes := 24, zero := V.agg [V.int IntKind.i64 0, V.int IntKind.i64 0, V.bool false, V.int IntKind.u8 0] }) ∧
    (ti P 8 = some { kind := K.struct [(0, 2), (1, 3), (2, 4), (3, 6)], size := 4, bytes := 24, zero := V.agg [V.int IntKind.i64 0, V.int IntKind.i64 0, V.bool false, V.int IntKind.u8 0] }) ∧
    (ti P 9 = some { kind := K.str, size := 1, bytes := 16, zero := V.str [] }) ∧
    (ti P 10 = some { kind := K.str, size := 1, bytes := 16, zero := V.str [] }) ∧
    (ti P 11 = some { kind := K.str, size := 1, bytes := 16, zero := V.str [] }) ∧
    (ti P 12 = some { kind := K.int IntKind.u64, size := 1, bytes := 8, zero := V.int IntKind.u64 0 }) ∧
    (ti P 13 = some { kind := K.struct [(0, 9), (1, 12)], size := 2, bytes := 24, zero := V.agg [V.str [], V.int IntKind.u64 0] }) ∧
    (ti P 14 = some { kind := K.struct [(0, 9), (1, 12)], size := 2, bytes := 24, zero := V.agg [V.str [], V.int IntKind.u64 0] }) ∧
    (ti P 15 = some { kind := K.ptr 117, size := 1, bytes := 8, zero := V.nilp }) ∧
    (ti P 16 = some { kind := K.ptr 120, size := 1, bytes := 8, zero := V.nilp }) ∧
    (ti P 17 = some { kind := K.ptr 128, size := 1, bytes := 8, zero := V.nilp }) ∧
    (ti P 18 = some { kind := K.struct [(0, 17)], size := 1, bytes := 8, zero := V.agg [V.nilp] }) ∧
    (ti P 19 = some { kind := K.struct [(0, 17)], size := 1, bytes := 8, zero := V.agg [V.nilp] }) ∧
    (ti P 20 = some { kind := K.iface, size := 1, bytes := 16, zero := V.nili }) ∧
    (ti P 21 = some { kind := K.int IntKind.i32, size := 1, bytes := 4, zero := V.int IntKind.i32 0 }) ∧
    (ti P 22 = some { kind := K.func, size := 1, bytes := 8, zero := V.nilf }) ∧
    (ti P 23 = some { kind := K.int IntKind.i64, size := 1, bytes := 8, zero := V.int IntKind.i64 0 }) ∧
    (ti P 24 = some { kind := K.other, size := 1, bytes := 0, zero := V.any }) ∧
    (ti P 25 = some { kind := K.func, size := 1, bytes := 8, zero := V.nilf }) ∧
    (ti P 26 = some { kind := K.other, size := 1, bytes := 0, zero := V.any }) ∧
    (ti P 27 = some { kind := K.func, size := 1, bytes := 8, zero := V.nilf }) ∧
    (ti P 28 = some { kind := K.func, size := 1, bytes := 8, zero := V.nilf }) ∧
    (ti P 29 = some { kind := K.func, size := 1, bytes := 8, zero := V.nilf }) ∧
    (ti P 30 = some { kind := K.func, size := 1, bytes := 8, zero := V.nilf }) ∧
    (ti P 31 = some { kind := K.func, size := 1, bytes := 8, zero := V.nilf }) ∧
    (ti P 32 = some { kind := K.func, size := 1, bytes := 8, zero := V.nilf }) ∧
    (ti P 33 = some { kind := K.func, size := 1, bytes := 8, zero := V.nilf }) ∧
    (ti P 34 = some { kind := K.slice 5, size := 1, bytes := 24, zero := V.nils }) ∧
    (ti P 35 = some { kind := K.func, size := 1, bytes := 8, zero := V.nilf }) ∧
    (ti P 36 = some { kind := K.func, size := 1, bytes := 8, zero := V.nilf }) ∧
    (ti P 37 = some { kind := K.func, size := 1, bytes := 8, zero := V.nilf }) ∧
    (ti P 38 = some { kind := K.func, size := 1, bytes := 8, zero := V.nilf }) ∧
    (ti P 39 = some { kind := K.func, size := 1, bytes := 8, zero := V.nilf }) ∧
    (ti P 40 = some { kind := K.ptr 44, size := 1, bytes := 8, zero := V.nilp }) ∧
    (ti P 41 = some { kind := K.iface, size := 1, bytes := 16, zero := V.nili }) ∧
    (ti P 42 = some { kind := K.iface, size := 1, bytes := 16, zero := V.nili }) ∧
    (ti P 43 = some { kind := K.struct [(0, 42)], size := 1, bytes := 16, zero := V.agg [V.nili] }) ∧
    (ti P 44 = some { kind := K.struct [(0, 42)], size := 1, bytes := 16, zero := V.agg [V.nili] }) ∧
    (ti P 45 = some { kind := K.other, size := 1, bytes := 0, zero := V.any }) ∧
    (ti P 46 = some { kind := K.func, size := 1, bytes := 8, zero := V.nilf }) ∧
    (ti P 47 = some { kind := K.func, size := 1, bytes := 8, zero := V.nilf }) ∧
    (ti P 48 = some { kind := K.func, size := 1, bytes := 8, zero := V.nilf }) ∧
    (ti P 49 = some { kind := K.other, size := 1, bytes := 0, zero := V.any }) ∧
    (ti P 50 = some { kind := K.func, size := 1, bytes := 8, zero := V.nilf }) ∧
    (ti P 51 = some { kind := K.func, size := 1, bytes := 8, zero := V.nilf }) ∧
    (ti P 52 = some { kind := K.ptr 23, size := 1, bytes := 8, zero := V.nilp }) ∧
    (ti P 53 = some { kind := K.int IntKind.u64, size := 1, bytes := 8, zero := V.int IntKind.u64 0 }) ∧
    (ti P 54 = some { kind := K.func, size := 1, bytes := 8, zero := V.nilf }) ∧
    (ti P 55 = some { kind := K.other, size := 1, bytes := 8, zero := V.nilp }) ∧
    (ti P 56 = some { kind := K.int IntKind.u64, size := 1, bytes := 8, zero := V.int IntKind.u64 0 }) ∧
    (ti P 57 = some { kind := K.struct [(0, 17), (1, 55), (2, 56)], size := 3, bytes := 24, zero := V.agg [V.nilp, V.nilp, V.int IntKind.u64 0] }) ∧
    (ti P 58 = some { kind := K.struct [(0, 17), (1, 55), (2, 56)], size := 3, bytes := 24, zero := V.agg [V.nilp, V.nilp, V.int IntKind.u64 0] }) ∧
    (ti P 59 = some { kind := K.func, size := 1, bytes := 8, zero := V.nilf }) ∧
    (ti P 60 = some { kind := K.iface, size := 1, bytes := 16, zero := V.nili }) ∧
    (ti P 61 = some { kind := K.iface, size := 1, bytes := 16, zero := V.nili }) ∧
    (ti P 62 = some { kind := K.func, size := 1, bytes := 8, zero := V.nilf }) ∧
    (ti P 63 = some { kind := K.int IntKind.u8, size := 1, bytes := 1, zero := V.int IntKind.u8 0 }) ∧
    (ti P 64 = some { kind := K.func, size := 1, bytes := 8, zero := V.nilf }) ∧
    (ti P 65 = some { kind := K.func, size := 1, bytes := 8, zero := V.nilf }) ∧
    (ti P 66 = some { kind := K.func, size := 1, bytes := 8, zero := V.nilf }) ∧
    (ti P 67 = some { kind := K.func, size := 1, bytes := 8, zero := V.nilf }) ∧
    (ti P 69 = some { kind := K.int IntKind.u64, size := 1, bytes := 8, zero := V.int IntKind.u64 0 }) ∧
    (ti P 70 = some { kind := K.func, size := 1, bytes := 8, zero := V.nilf }) ∧
    (ti P 71 = some { kind := K.func, size := 1, bytes := 8, zero := V.nilf }) ∧
    (ti P 72 = some { kind := K.other, size := 1, bytes := 0, zero := V.any }) ∧
    (ti P 73 = some { kind := K.func, size := 1, bytes := 8, zero := V.nilf }) ∧
    (ti P 74 = some { kind := K.struct [(0, 17)], size := 1, bytes := 8, zero := V.agg [V.nilp] }) ∧
    (ti P 75 = some { kind := K.struct [(0, 17)], size := 1, bytes := 8, zero := V.agg [V.nilp] }) ∧
    (ti P 76 = some { kind := K.ptr 132, size := 1, bytes := 8, zero := V.nilp }) ∧
    (ti P 77 = some { kind := K.func, size := 1, bytes := 8, zero := V.nilf }) ∧
    (ti P 78 = some { kind := K.func, size := 1, bytes := 8, zero := V.nilf }) ∧
    (ti P 79 = some { kind := K.func, size := 1, bytes := 8, zero := V.nilf }) ∧
    (ti P 80 = some { kind := K.iface, size := 1, bytes := 16, zero := V.nili }) ∧
    (ti P 81 = some { kind := K.other, size := 1, bytes := 0, zero := V.any }) ∧
    (ti P 82 = some { kind := K.func, size := 1, bytes := 8, zero := V.nilf }) ∧
    (ti P 83 = some { kind := K.iface, size := 1, bytes := 16, zero := V.nili }) ∧
    (ti P 84 = some { kind := K.func, size := 1, bytes := 8, zero := V.nilf }) ∧
    (ti P 85 = some { kind := K.iface, size := 1, bytes := 16, zero := V.nili }) ∧
    (ti P 86 = some { kind := K.slice 42, size := 1, bytes := 24, zero := V.nils }) ∧
    (ti P 87 = some { kind := K.func, size := 1, bytes := 8, zero := V.nilf }) ∧
    (ti P 88 = some { kind := K.int IntKind.i64, size := 1, bytes := 8, zero := V.int IntKind.i64 0 }) ∧
    (ti P 89 = some { kind := K.other, size := 1, bytes := 0, zero := V.any }) ∧
    (ti P 90 = some { kind := K.func, size := 1, bytes := 8, zero := V.nilf }) ∧
    (ti P 91 = some { kind := K.ptr 104, size := 1, bytes := 8, zero := V.nilp }) ∧
    (ti P 92 = some { kind := K.func, size := 1, bytes := 8, zero := V.nilf }) ∧
    (ti P 93 = some { kind := K.func, size := 1, bytes := 8, zero := V.nilf }) ∧
    (ti P 94 = some { kind := K.func, size := 1, bytes := 8, zero := V.nilf }) ∧
    (ti P 95 = some { kind := K.func, size := 1, bytes := 8, zero := V.nilf }) ∧
    (ti P 97 = some { kind := K.int IntKind.u32, size := 1, bytes := 4, zero := V.int IntKind.u32 0 }) ∧
    (ti P 99 = some { kind := K.func, size := 1, bytes := 8, zero := V.nilf }) ∧
    (ti P 100 = some { kind := K.other, size := 1, bytes := 0, zero := V.any }) ∧
    (ti P 101 = some { kind := K.func, size := 1, bytes := 8, zero := V.nilf }) ∧
    (ti P 102 = some { kind := K.func, size := 1, bytes := 8, zero := V.nilf }) ∧
    (ti P 103 = some { kind := K.struct [(0, 9), (1, 9), (2, 42)], size := 3, bytes := 48, zero := V.agg [V.str [], V.str [], V.nili] }) ∧
    (ti P 104 = some { kind := K.struct [(0, 9), (1, 9), (2, 42)], size := 3, bytes := 48, zero := V.agg [V.str [], V.str [], V.nili] }) ∧
    (ti P 105 = some { kind := K.func, size := 1, bytes := 8, zero := V.nilf }) ∧
    (ti P 106 = some { kind := K.func, size := 1, bytes := 8, zero := V.nilf }) ∧
    (ti P 107 = some { kind := K.func, size := 1, bytes := 8, zero := V.nilf }) ∧
    (ti P 108 = some { kind := K.func, size := 1, bytes := 8, zero := V.nilf }) ∧
    (ti P 109 = some { kind := K.ptr 5, size := 1, bytes := 8, zero := V.nilp }) ∧
    (ti P 110 = some { kind := K.ptr 112, size := 1, bytes := 8, zero := V.nilp }) ∧
    (ti P 111 = some { kind := K.struct [(0, 9)], size := 1, bytes := 16, zero := V.agg [V.str []] }) ∧
    (ti P 112 = some { kind := K.struct [(0, 9)], size := 1, bytes := 16, zero := V.agg [V.str []] }) ∧
    (ti P 115 = some { kind := K.func, size := 1, bytes := 8, zero := V.nilf }) ∧
    (ti P 116 = some { kind := K.struct [(0, 17), (1, 17), (2, 17), (3, 9)], size := 4, bytes := 40, zero := V.agg [V.nilp, V.nilp, V.nilp, V.str []] }) ∧
    (ti P 117 = some { kind := K.struct [(0, 17), (1, 17), (2, 17), (3, 9)], size := 4, bytes := 40, zero := V.agg [V.nilp, V.nilp, V.nilp, V.str []] }) ∧
    (ti P 118 = some { kind := K.arr 0 16, size := 0, bytes := 0, zero := V.agg [] }) ∧
    (ti P 119 = some { kind := K.struct [(0, 118)], size := 0, bytes := 0, zero := V.agg [] }) ∧
    (ti P 120 = some { kind := K.struct [(0, 118)], size := 0, bytes := 0, zero := V.agg [] }) ∧
    (ti P 121 = some { kind := K.func, size := 1, bytes := 8, zero := V.nilf }) ∧
    (ti P 122 = some { kind := K.func, size := 1, bytes := 8, zero := V.nilf }) ∧
    (ti P 123 = some { kind := K.int IntKind.u8, size := 1, bytes := 1, zero := V.int IntKind.u8 0 }) ∧
    (ti P 124 = some { kind := K.func, size := 1, bytes := 8, zero := V.nilf }) ∧
    (ti P 125 = some { kind := K.int IntKind.i32, size := 1, bytes := 4, zero := V.int IntKind.i32 0 }) ∧
    (ti P 126 = some { kind := K.int IntKind.i32, size := 1, bytes := 4, zero := V.int IntKind.i32 0 }) ∧
    (ti P 127 = some { kind := K.struct [(0, 12), (1, 12), (2, 97), (3, 123), (4, 5), (5, 5), (6, 63), (7, 124), (8, 109), (9, 125), (10, 126)], size := 11, bytes := 48, zero := V.agg [V.int IntKind.u64 0, V.int IntKind.u64 0, V.int IntKind.u32 0, V.int IntKind.u8 0, V.int IntKind.u8 0, V.int IntKind.u8 0, V.int IntKind.u8 0, V.nilf, V.nilp, V.int IntKind.i32 0, V.int IntKind.i32 0] }) ∧
    (ti P 128 = some { kind := K.struct [(0, 12), (1, 12), (2, 97), (3, 123), (4, 5), (5, 5), (6, 63), (7, 124), (8, 109), (9, 125), (10, 126)], size := 11, bytes := 48, zero := V.agg [V.int IntKind.u64 0, V.int IntKind.u64 0, V.int IntKind.u32 0, V.int IntKind.u8 0, V.int IntKind.u8 0, V.int IntKind.u8 0, V.int IntKind.u8 0, V.nilf, V.nilp, V.int IntKind.i32 0, V.int IntKind.i32 0] }) ∧
    (ti P 129 = some { kind := K.func, size := 1, bytes := 8, zero := V.nilf }) ∧
    (ti P 130 = some { kind := K.func, size := 1, bytes := 8, zero := V.nilf }) ∧
    (ti P 131 = some { kind := K.struct [(0, 9), (1, 63)], size := 2, bytes := 24, zero := V.agg [V.str [], V.int IntKind.u8 0] }) ∧
    (ti P 132 = some { kind := K.struct [(0, 9), (1, 63)], size := 2, bytes := 24, zero := V.agg [V.str [], V.int IntKind.u8 0] }) ∧
    (ti P 133 = some { kind := K.ptr 137, size := 1, bytes := 8, zero := V.nilp }) ∧
    (ti P 134 = some { kind := K.func, size := 1, bytes := 8, zero := V.nilf }) ∧
    (ti P 135 = some { kind := K.int IntKind.u16, size := 1, bytes := 2, zero := V.int IntKind.u16 0 }) ∧
    (ti P 136 = some { kind := K.struct [(0, 125), (1, 135), (2, 135), (3, 97), (4, 97)], size := 5, bytes := 16, zero := V.agg [V.int IntKind.i32 0, V.int IntKind.u16 0, V.int IntKind.u16 0, V.int IntKind.u32 0, V.int IntKind.u32 0] }) ∧
    (ti P 137 = some { kind := K.struct [(0, 125), (1, 135), (2, 135), (3, 97), (4, 97)], size := 5, bytes := 16, zero := V.agg [V.int IntKind.i32 0, V.int IntKind.u16 0, V.int IntKind.u16 0, V.int IntKind.u32 0, V.int IntKind.u32 0] }) ∧
    (ti P 138 = some { kind := K.slice 141, size := 1, bytes := 24, zero := V.nils }) ∧
    (ti P 139 = some { kind := K.int IntKind.i32, size := 1, bytes := 4, zero := V.int IntKind.i32 0 }) ∧
    (ti P 140 = some { kind := K.struct [(0, 125), (1, 126), (2, 139), (3, 139)], size := 4, bytes := 16, zero := V.agg [V.int IntKind.i32 0, V.int IntKind.i32 0, V.int IntKind.i32 0, V.int IntKind.i32 0] }) ∧
    (ti P 141 = some { kind := K.struct [(0, 125), (1, 126), (2, 139), (3, 139)], size := 4, bytes := 16, zero := V.agg [V.int IntKind.i32 0, V.int IntKind.i32 0, V.int IntKind.i32 0, V.int IntKind.i32 0] }) ∧
    (ti P 142 = some { kind := K.ptr 42, size := 1, bytes := 8, zero := V.nilp }) :=
  ⟨rfl, rfl, rfl, rfl, rfl, rfl, rfl, rfl, rfl, rfl, rfl, rfl, rfl, rfl, rfl, rfl, rfl, rfl, rfl, rfl, rfl, rfl, rfl, rfl, rfl, rfl, rfl, rfl, rfl, rfl, rfl, rfl, rfl, rfl, rfl, rfl, rfl, rfl, rfl, rfl, rfl, rfl, rfl, rfl, rfl, rfl, rfl, rfl, rfl, rfl, rfl, rfl, rfl, rfl, rfl, rfl, rfl, rfl, rfl, rfl, rfl, rfl, rfl, rfl, rfl, rfl, rfl, rfl, rfl, rfl, rfl, rfl, rfl, rfl, rfl, rfl, rfl, rfl, rfl, rfl, rfl, rfl, rfl, rfl, rfl, rfl, rfl, rfl, rfl, rfl, rfl, rfl, rfl, rfl, rfl, rfl, rfl, rfl, rfl, rfl, rfl, rfl, rfl, rfl, rfl, rfl, rfl, rfl, rfl, rfl, rfl, rfl, rfl, rfl, rfl, rfl, rfl, rfl, rfl, rfl, rfl, rfl, rfl, rfl, rfl, rfl, rfl, rfl, rfl, rfl, rfl, rfl, rfl, rfl, rfl, rfl, rfl, rfl⟩
set_option maxRecDepth 100000 in
theorem ens : (enters P 2 = true) ∧
    (enters P 3 = true) ∧
    (enters P 4 = true) ∧
    (enters P 5 = true) ∧
    (enters P 6 = true) ∧
    (enters P 7 = true) ∧
    (enters P 8 = true) ∧
    (enters P 9 = true) ∧
    (enters P 10 = true) ∧
    (enters P 11 = true) ∧
    (enters P 12 = true) ∧
    (enters P 13 = true) ∧
    (enters P 14 = true) ∧
    (enters P 15 = true) ∧
    (enters P 16 = true) ∧
    (enters P 17 = true) ∧
    (enters P 18 = true) ∧
    (enters P 19 = true) ∧
    (enters P 20 = true) ∧
    (enters P 21 = true) ∧
    (enters P 22 = true) ∧
    (enters P 23 = true) ∧
    (enters P 24 = true) ∧
    (enters P 25 = true) ∧
    (enters P 26 = true) ∧
    (enters P 27 = true) ∧
    (enters P 28 = true) ∧
    (enters P 29 = true) ∧
    (enters P 30 = true) ∧
    (enters P 31 = true) ∧
    (enters P 35 = true) ∧
    (enters P 36 = true) ∧
    (enters P 37 = true) ∧
    (enters P 38 = true) ∧
    (enters P 39 = true) ∧
    (enters P 40 = true) ∧
    (enters P 41 = true) ∧
    (enters P 45 = true) ∧
    (enters P 46 = true) ∧
    (enters P 47 = true) ∧
    (enters P 48 = true) ∧
    (enters P 49 = true) ∧
    (enters P 50 = true) ∧
    (enters P 51 = true) ∧
    (enters P 52 = true) ∧
    (enters P 53 = true) ∧
    (enters P 54 = true) ∧
    (enters P 55 = true) ∧
    (enters P 56 = true) ∧
    (enters P 57 = true) ∧
    (enters P 58 = true) ∧
    (enters P 59 = true) ∧
    (enters P 60 = true) ∧
    (enters P 61 = true) ∧
    (enters P 81 = true) ∧
    (enters P 98 = true) ∧
    (enters P 109 = true) :=
  ⟨rfl, rfl, rfl, rfl, rfl, rfl, rfl, rfl, rfl, rfl, rfl, rfl, rfl, rfl, rfl, rfl, rfl, rfl, rfl, rfl, rfl, rfl, rfl, rfl, rfl, rfl, rfl, rfl, rfl, rfl, rfl, rfl, rfl, rfl, rfl, rfl, rfl, rfl, rfl, rfl, rfl, rfl, rfl, rfl, rfl, rfl, rfl, rfl, rfl, rfl, rfl, rfl, rfl, rfl, rfl, rfl, rfl⟩
set_option maxRecDepth 100000 in
theorem nts : (Tryd.f2.ntmps = 1) ∧
    (Tryd.f3.ntmps = 86) ∧
    (Tryd.f4.ntmps = 75) ∧
    (Tryd.f5.ntmps = 129) ∧
    (Tryd.f6.ntmps = 127) ∧
    (Tryd.f7.ntmps = 112) ∧
    (Tryd.f8.ntmps = 100) ∧
    (Tryd.f9.ntmps = 121) ∧
    (Tryd.f10.ntmps = 9) ∧
    (Tryd.f11.ntmps = 32) ∧
    (Tryd.f12.ntmps = 42) ∧
    (Tryd.f13.ntmps = 57) ∧
    (Tryd.f14.ntmps = 9) ∧
    (Tryd.f15.ntmps = 6) ∧
    (Tryd.f16.ntmps = 18) ∧
    (Tryd.f17.ntmps = 29) ∧
    (Tryd.f18.ntmps = 37) ∧
    (Tryd.f19.ntmps = 74) ∧
    (Tryd.f20.ntmps = 9) ∧
    (Tryd.f21.ntmps = 5) ∧
    (Tryd.f22.ntmps = 35) ∧
    (Tryd.f23.ntmps = 19) ∧
    (Tryd.f24.ntmps = 34) ∧
    (Tryd.f25.ntmps = 4) ∧
    (Tryd.f26.ntmps = 57) ∧
    (Tryd.f27.ntmps = 5) ∧
    (Tryd.f28.ntmps = 42) ∧
    (Tryd.f29.ntmps = 18) ∧
    (Tryd.f30.ntmps = 17) ∧
    (Tryd.f31.ntmps = 54) ∧
    (Tryd.f35.ntmps = 62) ∧
    (Tryd.f36.ntmps = 77) ∧
    (Tryd.f37.ntmps = 43) ∧
    (Tryd.f38.ntmps = 15) ∧
    (Tryd.f39.ntmps = 15) ∧
    (Tryd.f40.ntmps = 167) ∧
    (Tryd.f41.ntmps = 102) ∧
    (Tryd.f45.ntmps = 73) ∧
    (Tryd.f46.ntmps = 11) ∧
    (Tryd.f47.ntmps = 11) ∧
    (Tryd.f48.ntmps = 16) ∧
    (Tryd.f49.ntmps = 16) ∧
    (Tryd.f50.ntmps = 6) ∧
    (Tryd.f51.ntmps = 25) ∧
    (Tryd.f52.ntmps = 4) ∧
    (Tryd.f53.ntmps = 8) ∧
    (Tryd.f54.ntmps = 8) ∧
    (Tryd.f55.ntmps = 172) ∧
    (Tryd.f56.ntmps = 18) ∧
    (Tryd.f57.ntmps = 7) ∧
    (Tryd.f58.ntmps = 14) ∧
    (Tryd.f59.ntmps = 14) ∧
    (Tryd.f60.ntmps = 5) ∧
    (Tryd.f61.ntmps = 94) ∧
    (Tryd.f81.ntmps = 7) ∧
    (Tryd.f98.ntmps = 7) ∧
    (Tryd.f109.ntmps = 8) :=
  ⟨rfl, rfl, rfl, rfl, rfl, rfl, rfl, rfl, rfl, rfl, rfl, rfl, rfl, rfl, rfl, rfl, rfl, rfl, rfl, rfl, rfl, rfl, rfl, rfl, rfl, rfl, rfl, rfl, rfl, rfl, rfl, rfl, rfl, rfl, rfl, rfl, rfl, rfl, rfl, rfl, rfl, rfl, rfl, rfl, rfl, rfl, rfl, rfl, rfl, rfl, rfl, rfl, rfl, rfl, rfl, rfl, rfl⟩
end Go.Proofs.YtbikgbnhngmohaaDoor
