/- What the program is made of. -/
import Derived.Test.YtajcfppemkdomaaProg
import Derived.Test.YtajcfppemkdomaaA8

set_option linter.unusedVariables false
namespace Go.Proofs.Ytajcfppemkdomaa
open Go Go.Proofs Go.Abs
noncomputable abbrev P := Go.Proofs.Try.prog
noncomputable def TE : E := { P := P }
theorem TEP : TE.P = P := rfl
theorem TEtl : TE.tl = [] := rfl
theorem mixed : TE.P.follows .mixedOrders = true := rfl
set_option maxRecDepth 100000 in
theorem tis : (ti P 0 = some { kind := K.other, size := 1, bytes := 0, zero := V.any }) ∧
    (ti P 1 = some { kind := K.func, size := 1, bytes := 8, zero := V.nilf }) ∧
    (ti P 2 = some { kind := K.int IntKind.i64, size := 1, bytes := 8, zero := V.int IntKind.i64 0 }) ∧
    (ti P 3 = some { kind := K.int IntKind.i64, size := 1, bytes := 8, zero := V.int IntKind.i64 0 }) ∧
    (ti P 4 = some { kind := K.bool, size := 1, bytes := 1, zero := V.bool false }) ∧
    (ti P 5 = some { kind := K.int IntKind.u8, size := 1, bytes := 1, zero := V.int IntKind.u8 0 }) ∧
    (ti P 6 = some { kind := K.int IntKind.u8, size := 1, bytes := 1, zero := V.int IntKind.u8 0 }) ∧
    (ti P 7 = some { kind := K.struct [(0, 2), (1, 3), (2, 4), (3, 6)], size := 4, bytes := 24, zero := V.agg [V.int IntKind.i64 0, V.int IntKind.i64 0, V.bool false, V.int IntKind.u8 0] }) ∧
    (ti P 8 = some { kind := K.struct [(0, 2), (1, 3), (2, 4), (3, 6)], size := 4, bytes := 24, zero := V.agg [V.int IntKind.i64 0, V.int IntKind.i64 0, V.bool false, V.int IntKind.u8 0] }) ∧
    (ti P 9 = some { kind := K.str, size := 1, bytes := 16, zero := V.str [] }) ∧
    (ti P 10 = some { kind := K.str, size := 1, bytes := 16, zero := V.str [] }) ∧
    (ti P 11 = some { kind := K.str, size := 1, bytes := 16, zero := V.str [] }) ∧
    (ti P 12 = some { kind := K.int IntKind.u64, size := 1, bytes := 8, zero := V.int IntKind.u64 0 }) ∧
    (ti P 13 = some { kind := K.struct [(0, 9), (1, 12)], size := 2, bytes := 24, zero := V.agg [V.str [], V.int IntKind.u64 0] }) ∧
    (ti P 14 = some { kind := K.struct [(0, 9), (1, 12)], size := 2, bytes := 24, zero := V.agg [V.str [], V.int IntKind.u64 0] }) ∧
    (ti P 15 = some { kind := K.ptr 122, size := 1, bytes := 8, zero := V.nilp }) ∧
    (ti P 16 = some { kind := K.ptr 125, size := 1, bytes := 8, zero := V.nilp }) ∧
    (ti P 17 = some { kind := K.ptr 134, size := 1, bytes := 8, zero := V.nilp }) ∧
    (ti P 18 = some { kind := K.struct [(0, 17)], size := 1, bytes := 8, zero := V.agg [V.nilp] }) ∧
    (ti P 19 = some { kind := K.struct [(0, 17)], size := 1, bytes := 8, zero := V.agg [V.nilp] }) ∧
    (ti P 20 = some { kind := K.iface, size := 1, bytes := 16, zero := V.nili }) ∧
    (ti P 21 = some { kind := K.int IntKind.i32, size := 1, bytes := 4, zero := V.int IntKind.i32 0 }) ∧
    (ti P 22 = some { kind := K.slice 44, size := 1, bytes := 24, zero := V.nils }) ∧
    (ti P 23 = some { kind := K.func, size := 1, bytes := 8, zero := V.nilf }) ∧
    (ti P 24 = some { kind := K.func, size := 1, bytes := 8, zero := V.nilf }) ∧
    (ti P 25 = some { kind := K.slice 4, size := 1, bytes := 24, zero := V.nils }) ∧
    (ti P 26 = some { kind := K.struct [(0, 3), (1, 25), (2, 3), (3, 22)], size := 4, bytes := 64, zero := V.agg [V.int IntKind.i64 0, V.nils, V.int IntKind.i64 0, V.nils] }) ∧
    (ti P 27 = some { kind := K.struct [(0, 3), (1, 25), (2, 3), (3, 22)], size := 4, bytes := 64, zero := V.agg [V.int IntKind.i64 0, V.nils, V.int IntKind.i64 0, V.nils] }) ∧
    (ti P 28 = some { kind := K.int IntKind.i64, size := 1, bytes := 8, zero := V.int IntKind.i64 0 }) ∧
    (ti P 29 = some { kind := K.other, size := 1, bytes := 0, zero := V.any }) ∧
    (ti P 30 = some { kind := K.func, size := 1, bytes := 8, zero := V.nilf }) ∧
    (ti P 31 = some { kind := K.func, size := 1, bytes := 8, zero := V.nilf }) ∧
    (ti P 32 = some { kind := K.func, size := 1, bytes := 8, zero := V.nilf }) ∧
    (ti P 33 = some { kind := K.struct [(0, 3), (1, 25), (2, 3), (3, 22)], size := 4, bytes := 64, zero := V.agg [V.int IntKind.i64 0, V.nils, V.int IntKind.i64 0, V.nils] }) ∧
    (ti P 34 = some { kind := K.func, size := 1, bytes := 8, zero := V.nilf }) ∧
    (ti P 35 = some { kind := K.func, size := 1, bytes := 8, zero := V.nilf }) ∧
    (ti P 36 = some { kind := K.func, size := 1, bytes := 8, zero := V.nilf }) ∧
    (ti P 37 = some { kind := K.func, size := 1, bytes := 8, zero := V.nilf }) ∧
    (ti P 38 = some { kind := K.func, size := 1, bytes := 8, zero := V.nilf }) ∧
    (ti P 39 = some { kind := K.func, size := 1, bytes := 8, zero := V.nilf }) ∧
    (ti P 40 = some { kind := K.func, size := 1, bytes := 8, zero := V.nilf }) ∧
    (ti P 41 = some { kind := K.other, size := 1, bytes := 0, zero := V.any }) ∧
    (ti P 42 = some { kind := K.func, size := 1, bytes := 8, zero := V.nilf }) ∧
    (ti P 43 = some { kind := K.slice 3, size := 1, bytes := 24, zero := V.nils }) ∧
    (ti P 44 = some { kind := K.slice 3, size := 1, bytes := 24, zero := V.nils }) ∧
    (ti P 45 = some { kind := K.ptr 51, size := 1, bytes := 8, zero := V.nilp }) ∧
    (ti P 46 = some { kind := K.slice 56, size := 1, bytes := 24, zero := V.nils }) ∧
    (ti P 47 = some { kind := K.map 3 22, size := 1, bytes := 8, zero := V.nilm }) ∧
    (ti P 48 = some { kind := K.slice 60, size := 1, bytes := 24, zero := V.nils }) ∧
    (ti P 49 = some { kind := K.slice 60, size := 1, bytes := 24, zero := V.nils }) ∧
    (ti P 50 = some { kind := K.struct [(0, 46), (1, 47), (2, 43), (3, 3), (4, 43), (5, 49), (6, 22), (7, 3)], size := 8, bytes := 144, zero := V.agg [V.nils, V.nilm, V.nils, V.int IntKind.i64 0, V.nils, V.nils, V.nils, V.int IntKind.i64 0] }) ∧
    (ti P 51 = some { kind := K.struct [(0, 46), (1, 47), (2, 43), (3, 3), (4, 43), (5, 49), (6, 22), (7, 3)], size := 8, bytes := 144, zero := V.agg [V.nils, V.nilm, V.nils, V.int IntKind.i64 0, V.nils, V.nils, V.nils, V.int IntKind.i64 0] }) ∧
    (ti P 52 = some { kind := K.struct [(0, 3)], size := 1, bytes := 8, zero := V.agg [V.int IntKind.i64 0] }) ∧
    (ti P 53 = some { kind := K.struct [(0, 3)], size := 1, bytes := 8, zero := V.agg [V.int IntKind.i64 0] }) ∧
    (ti P 54 = some { kind := K.other, size := 1, bytes := 0, zero := V.any }) ∧
    (ti P 55 = some { kind := K.struct [(0, 3), (1, 3), (2, 44), (3, 3), (4, 3)], size := 5, bytes := 56, zero := V.agg [V.int IntKind.i64 0, V.int IntKind.i64 0, V.nils, V.int IntKind.i64 0, V.int IntKind.i64 0] }) ∧
    (ti P 56 = some { kind := K.struct [(0, 3), (1, 3), (2, 44), (3, 3), (4, 3)], size := 5, bytes := 56, zero := V.agg [V.int IntKind.i64 0, V.int IntKind.i64 0, V.nils, V.int IntKind.i64 0, V.int IntKind.i64 0] }) ∧
    (ti P 57 = some { kind := K.func, size := 1, bytes := 8, zero := V.nilf }) ∧
    (ti P 58 = some { kind := K.ptr 49, size := 1, bytes := 8, zero := V.nilp }) ∧
    (ti P 59 = some { kind := K.struct [(0, 3), (1, 3)], size := 2, bytes := 16, zero := V.agg [V.int IntKind.i64 0, V.int IntKind.i64 0] }) ∧
    (ti P 60 = some { kind := K.struct [(0, 3), (1, 3)], size := 2, bytes := 16, zero := V.agg [V.int IntKind.i64 0, V.int IntKind.i64 0] }) ∧
    (ti P 61 = some { kind := K.func, size := 1, bytes := 8, zero := V.nilf }) ∧
    (ti P 62 = some { kind := K.func, size := 1, bytes := 8, zero := V.nilf }) ∧
    (ti P 63 = some { kind := K.func, size := 1, bytes := 8, zero := V.nilf }) ∧
    (ti P 64 = some { kind := K.func, size := 1, bytes := 8, zero := V.nilf }) ∧
    (ti P 65 = some { kind := K.func, size := 1, bytes := 8, zero := V.nilf }) ∧
    (ti P 66 = some { kind := K.func, size := 1, bytes := 8, zero := V.nilf }) ∧
    (ti P 67 = some { kind := K.func, size := 1, bytes := 8, zero := V.nilf }) ∧
    (ti P 68 = some { kind := K.func, size := 1, bytes := 8, zero := V.nilf }) ∧
    (ti P 69 = some { kind := K.func, size := 1, bytes := 8, zero := V.nilf }) ∧
    (ti P 70 = some { kind := K.func, size := 1, bytes := 8, zero := V.nilf }) ∧
    (ti P 71 = some { kind := K.func, size := 1, bytes := 8, zero := V.nilf }) ∧
    (ti P 72 = some { kind := K.func, size := 1, bytes := 8, zero := V.nilf }) ∧
    (ti P 73 = some { kind := K.func, size := 1, bytes := 8, zero := V.nilf }) ∧
    (ti P 74 = some { kind := K.func, size := 1, bytes := 8, zero := V.nilf }) ∧
    (ti P 75 = some { kind := K.iface, size := 1, bytes := 16, zero := V.nili }) ∧
    (ti P 76 = some { kind := K.iface, size := 1, bytes := 16, zero := V.nili }) ∧
    (ti P 77 = some { kind := K.func, size := 1, bytes := 8, zero := V.nilf }) ∧
    (ti P 78 = some { kind := K.func, size := 1, bytes := 8, zero := V.nilf }) ∧
    (ti P 79 = some { kind := K.func, size := 1, bytes := 8, zero := V.nilf }) ∧
    (ti P 80 = some { kind := K.func, size := 1, bytes := 8, zero := V.nilf }) ∧
    (ti P 81 = some { kind := K.func, size := 1, bytes := 8, zero := V.nilf }) ∧
    (ti P 82 = some { kind := K.func, size := 1, bytes := 8, zero := V.nilf }) ∧
    (ti P 83 = some { kind := K.func, size := 1, bytes := 8, zero := V.nilf }) ∧
    (ti P 84 = some { kind := K.func, size := 1, bytes := 8, zero := V.nilf }) ∧
    (ti P 85 = some { kind := K.func, size := 1, bytes := 8, zero := V.nilf }) ∧
    (ti P 86 = some { kind := K.func, size := 1, bytes := 8, zero := V.nilf }) ∧
    (ti P 87 = some { kind := K.func, size := 1, bytes := 8, zero := V.nilf }) ∧
    (ti P 88 = some { kind := K.func, size := 1, bytes := 8, zero := V.nilf }) ∧
    (ti P 89 = some { kind := K.func, size := 1, bytes := 8, zero := V.nilf }) ∧
    (ti P 90 = some { kind := K.func, size := 1, bytes := 8, zero := V.nilf }) ∧
    (ti P 91 = some { kind := K.func, size := 1, bytes := 8, zero := V.nilf }) ∧
    (ti P 92 = some { kind := K.func, size := 1, bytes := 8, zero := V.nilf }) ∧
    (ti P 93 = some { kind := K.func, size := 1, bytes := 8, zero := V.nilf }) ∧
    (ti P 94 = some { kind := K.func, size := 1, bytes := 8, zero := V.nilf }) ∧
    (ti P 95 = some { kind := K.func, size := 1, bytes := 8, zero := V.nilf }) ∧
    (ti P 96 = some { kind := K.ptr 56, size := 1, bytes := 8, zero := V.nilp }) ∧
    (ti P 97 = some { kind := K.func, size := 1, bytes := 8, zero := V.nilf }) ∧
    (ti P 98 = some { kind := K.other, size := 1, bytes := 0, zero := V.any }) ∧
    (ti P 99 = some { kind := K.func, size := 1, bytes := 8, zero := V.nilf }) ∧
    (ti P 100 = some { kind := K.other, size := 1, bytes := 0, zero := V.any }) ∧
    (ti P 101 = some { kind := K.func, size := 1, bytes := 8, zero := V.nilf }) ∧
    (ti P 102 = some { kind := K.func, size := 1, bytes := 8, zero := V.nilf }) ∧
    (ti P 103 = some { kind := K.func, size := 1, bytes := 8, zero := V.nilf }) ∧
    (ti P 104 = some { kind := K.func, size := 1, bytes := 8, zero := V.nilf }) ∧
    (ti P 105 = some { kind := K.struct [(0, 43), (1, 4)], size := 2, bytes := 32, zero := V.agg [V.nils, V.bool false] }) ∧
    (ti P 106 = some { kind := K.struct [(0, 43), (1, 4)], size := 2, bytes := 32, zero := V.agg [V.nils, V.bool false] }) ∧
    (ti P 107 = some { kind := K.func, size := 1, bytes := 8, zero := V.nilf }) ∧
    (ti P 108 = some { kind := K.map 3 4, size := 1, bytes := 8, zero := V.nilm }) ∧
    (ti P 109 = some { kind := K.map 3 4, size := 1, bytes := 8, zero := V.nilm }) ∧
    (ti P 110 = some { kind := K.other, size := 1, bytes := 0, zero := V.any }) ∧
    (ti P 111 = some { kind := K.func, size := 1, bytes := 8, zero := V.nilf }) ∧
    (ti P 112 = some { kind := K.func, size := 1, bytes := 8, zero := V.nilf }) ∧
    (ti P 113 = some { kind := K.func, size := 1, bytes := 8, zero := V.nilf }) ∧
    (ti P 114 = some { kind := K.func, size := 1, bytes := 8, zero := V.nilf }) ∧
    (ti P 115 = some { kind := K.func, size := 1, bytes := 8, zero := V.nilf }) ∧
    (ti P 116 = some { kind := K.func, size := 1, bytes := 8, zero := V.nilf }) ∧
    (ti P 117 = some { kind := K.func, size := 1, bytes := 8, zero := V.nilf }) ∧
    (ti P 118 = some { kind := K.other, size := 1, bytes := 0, zero := V.any }) ∧
    (ti P 119 = some { kind := K.func, size := 1, bytes := 8, zero := V.nilf }) ∧
    (ti P 120 = some { kind := K.func, size := 1, bytes := 8, zero := V.nilf }) ∧
    (ti P 121 = some { kind := K.struct [(0, 17), (1, 17), (2, 17), (3, 9)], size := 4, bytes := 40, zero := V.agg [V.nilp, V.nilp, V.nilp, V.str []] }) ∧
    (ti P 122 = some { kind := K.struct [(0, 17), (1, 17), (2, 17), (3, 9)], size := 4, bytes := 40, zero := V.agg [V.nilp, V.nilp, V.nilp, V.str []] }) ∧
    (ti P 123 = some { kind := K.arr 0 16, size := 0, bytes := 0, zero := V.agg [] }) ∧
    (ti P 124 = some { kind := K.struct [(0, 123)], size := 0, bytes := 0, zero := V.agg [] }) ∧
    (ti P 125 = some { kind := K.struct [(0, 123)], size := 0, bytes := 0, zero := V.agg [] }) ∧
    (ti P 126 = some { kind := K.int IntKind.u32, size := 1, bytes := 4, zero := V.int IntKind.u32 0 }) ∧
    (ti P 127 = some { kind := K.int IntKind.u8, size := 1, bytes := 1, zero := V.int IntKind.u8 0 }) ∧
    (ti P 128 = some { kind := K.int IntKind.u8, size := 1, bytes := 1, zero := V.int IntKind.u8 0 }) ∧
    (ti P 129 = some { kind := K.func, size := 1, bytes := 8, zero := V.nilf }) ∧
    (ti P 130 = some { kind := K.ptr 5, size := 1, bytes := 8, zero := V.nilp }) ∧
    (ti P 131 = some { kind := K.int IntKind.i32, size := 1, bytes := 4, zero := V.int IntKind.i32 0 }) ∧
    (ti P 132 = some { kind := K.int IntKind.i32, size := 1, bytes := 4, zero := V.int IntKind.i32 0 }) ∧
    (ti P 133 = some { kind := K.struct [(0, 12), (1, 12), (2, 126), (3, 127), (4, 5), (5, 5), (6, 128), (7, 129), (8, 130), (9, 131), (10, 132)], size := 11, bytes := 48, zero := V.agg [V.int IntKind.u64 0, V.int IntKind.u64 0, V.int IntKind.u32 0, V.int IntKind.u8 0, V.int IntKind.u8 0, V.int IntKind.u8 0, V.int IntKind.u8 0, V.nilf, V.nilp, V.int IntKind.i32 0, V.int IntKind.i32 0] }) ∧
    (ti P 134 = some { kind := K.struct [(0, 12), (1, 12), (2, 126), (3, 127), (4, 5), (5, 5), (6, 128), (7, 129), (8, 130), (9, 131), (10, 132)], size := 11, bytes := 48, zero := V.agg [V.int IntKind.u64 0, V.int IntKind.u64 0, V.int IntKind.u32 0, V.int IntKind.u8 0, V.int IntKind.u8 0, V.int IntKind.u8 0, V.int IntKind.u8 0, V.nilf, V.nilp, V.int IntKind.i32 0, V.int IntKind.i32 0] }) ∧
    (ti P 135 = some { kind := K.other, size := 1, bytes := 8, zero := V.nilp }) :=
  ⟨rfl, rfl, rfl, rfl, rfl, rfl, rfl, rfl, rfl, rfl, rfl, rfl, rfl, rfl, rfl, rfl, rfl, rfl, rfl, rfl, rfl, rfl, rfl, rfl, rfl, rfl, rfl, rfl, rfl, rfl, rfl, rfl, rfl, rfl, rfl, rfl, rfl, rfl, rfl, rfl, rfl, rfl, rfl, rfl, rfl, rfl, rfl, rfl, rfl, rfl, rfl, rfl, rfl, rfl, rfl, rfl, rfl, rfl, rfl, rfl, rfl, rfl, rfl, rfl, rfl, rfl, rfl, rfl, rfl, rfl, rfl, rfl, rfl, rfl, rfl, rfl, rfl, rfl, rfl, rfl, rfl, rfl, rfl, rfl, rfl, rfl, rfl, rfl, rfl, rfl, rfl, rfl, rfl, rfl, rfl, rfl, rfl, rfl, rfl, rfl, rfl, rfl, rfl, rfl, rfl, rfl, rfl, rfl, rfl, rfl, rfl, rfl, rfl, rfl, rfl, rfl, rfl, rfl, rfl, rfl, rfl, rfl, rfl, rfl, rfl, rfl, rfl, rfl, rfl, rfl, rfl, rfl, rfl, rfl, rfl, rfl⟩
set_option maxRecDepth 100000 in
theorem ens : (enters P 2 = true) ∧
    (enters P 3 = true) ∧
    (enters P 4 = true) ∧
    (enters P 5 = true) ∧
    (enters P 6 = true) ∧
    (enters P 7 = true) ∧
    (enters P 8 = true) ∧
    (enters P 9 = true) ∧
    (enters P 10 = true) ∧
    (enters P 11 = true) ∧
    (enters P 12 = true) ∧
    (enters P 13 = true) ∧
    (enters P 14 = true) ∧
    (enters P 15 = true) ∧
    (enters P 16 = true) ∧
    (enters P 17 = true) ∧
    (enters P 18 = true) ∧
    (enters P 19 = true) ∧
    (enters P 20 = true) ∧
    (enters P 21 = true) ∧
    (enters P 22 = true) ∧
    (enters P 23 = true) ∧
    (enters P 24 = true) ∧
    (enters P 25 = true) ∧
    (enters P 26 = true) ∧
    (enters P 27 = true) ∧
    (enters P 28 = true) ∧
    (enters P 29 = true) ∧
    (enters P 30 = true) ∧
    (enters P 31 = true) ∧
    (enters P 32 = true) ∧
    (enters P 33 = true) ∧
    (enters P 34 = true) ∧
    (enters P 35 = true) ∧
    (enters P 36 = true) ∧
    (enters P 37 = true) ∧
    (enters P 38 = true) ∧
    (enters P 39 = true) ∧
    (enters P 40 = true) ∧
    (enters P 41 = true) ∧
    (enters P 42 = true) ∧
    (enters P 43 = true) ∧
    (enters P 44 = true) ∧
    (enters P 45 = true) ∧
    (enters P 46 = true) ∧
    (enters P 47 = true) ∧
    (enters P 48 = true) ∧
    (enters P 49 = true) ∧
    (enters P 50 = true) ∧
    (enters P 51 = true) ∧
    (enters P 52 = true) ∧
    (enters P 53 = true) ∧
    (enters P 54 = true) ∧
    (enters P 55 = true) ∧
    (enters P 56 = true) ∧
    (enters P 57 = true) ∧
    (enters P 58 = true) ∧
    (enters P 59 = true) ∧
    (enters P 60 = true) ∧
    (enters P 61 = true) ∧
    (enters P 62 = true) ∧
    (enters P 63 = true) ∧
    (enters P 64 = true) ∧
    (enters P 65 = true) ∧
    (enters P 66 = true) ∧
    (enters P 67 = true) ∧
    (enters P 68 = true) ∧
    (enters P 69 = true) ∧
    (enters P 70 = true) ∧
    (enters P 71 = true) ∧
    (enters P 72 = true) ∧
    (enters P 73 = true) ∧
    (enters P 74 = true) ∧
    (enters P 75 = true) ∧
    (enters P 76 = true) ∧
    (enters P 77 = true) ∧
    (enters P 78 = true) ∧
    (enters P 79 = true) ∧
    (enters P 80 = true) ∧
    (enters P 81 = true) ∧
    (enters P 82 = true) ∧
    (enters P 100 = true) ∧
    (enters P 101 = true) ∧
    (enters P 102 = true) ∧
    (enters P 103 = true) :=
  ⟨rfl, rfl, rfl, rfl, rfl, rfl, rfl, rfl, rfl, rfl, rfl, rfl, rfl, rfl, rfl, rfl, rfl, rfl, rfl, rfl, rfl, rfl, rfl, rfl, rfl, rfl, rfl, rfl, rfl, rfl, rfl, rfl, rfl, rfl, rfl, rfl, rfl, rfl, rfl, rfl, rfl, rfl, rfl, rfl, rfl, rfl, rfl, rfl, rfl, rfl, rfl, rfl, rfl, rfl, rfl, rfl, rfl, rfl, rfl, rfl, rfl, rfl, rfl, rfl, rfl, rfl, rfl, rfl, rfl, rfl, rfl, rfl, rfl, rfl, rfl, rfl, rfl, rfl, rfl, rfl, rfl, rfl, rfl, rfl, rfl⟩
set_option maxRecDepth 100000 in
theorem nts : (Try.f2.ntmps = 1) ∧
    (Try.f3.ntmps = 76) ∧
    (Try.f4.ntmps = 47) ∧
    (Try.f5.ntmps = 47) ∧
    (Try.f6.ntmps = 71) ∧
    (Try.f7.ntmps = 134) ∧
    (Try.f8.ntmps = 27) ∧
    (Try.f9.ntmps = 55) ∧
    (Try.f10.ntmps = 43) ∧
    (Try.f11.ntmps = 31) ∧
    (Try.f12.ntmps = 12) ∧
    (Try.f13.ntmps = 63) ∧
    (Try.f14.ntmps = 8) ∧
    (Try.f15.ntmps = 26) ∧
    (Try.f16.ntmps = 27) ∧
    (Try.f17.ntmps = 33) ∧
    (Try.f18.ntmps = 62) ∧
    (Try.f19.ntmps = 19) ∧
    (Try.f20.ntmps = 21) ∧
    (Try.f21.ntmps = 48) ∧
    (Try.f22.ntmps = 12) ∧
    (Try.f23.ntmps = 60) ∧
    (Try.f24.ntmps = 32) ∧
    (Try.f25.ntmps = 18) ∧
    (Try.f26.ntmps = 26) ∧
    (Try.f27.ntmps = 27) ∧
    (Try.f28.ntmps = 19) ∧
    (Try.f29.ntmps = 36) ∧
    (Try.f30.ntmps = 8) ∧
    (Try.f31.ntmps = 26) ∧
    (Try.f32.ntmps = 26) ∧
    (Try.f33.ntmps = 32) ∧
    (Try.f34.ntmps = 23) ∧
    (Try.f35.ntmps = 19) ∧
    (Try.f36.ntmps = 18) ∧
    (Try.f37.ntmps = 17) ∧
    (Try.f38.ntmps = 9) ∧
    (Try.f39.ntmps = 7) ∧
    (Try.f40.ntmps = 9) ∧
    (Try.f41.ntmps = 23) ∧
    (Try.f42.ntmps = 9) ∧
    (Try.f43.ntmps = 28) ∧
    (Try.f44.ntmps = 20) ∧
    (Try.f45.ntmps = 40) ∧
    (Try.f46.ntmps = 1) ∧
    (Try.f47.ntmps = 85) ∧
    (Try.f48.ntmps = 63) ∧
    (Try.f49.ntmps = 67) ∧
    (Try.f50.ntmps = 87) ∧
    (Try.f51.ntmps = 26) ∧
    (Try.f52.ntmps = 18) ∧
    (Try.f53.ntmps = 19) ∧
    (Try.f54.ntmps = 30) ∧
    (Try.f55.ntmps = 17) ∧
    (Try.f56.ntmps = 7) ∧
    (Try.f57.ntmps = 8) ∧
    (Try.f58.ntmps = 14) ∧
    (Try.f59.ntmps = 30) ∧
    (Try.f60.ntmps = 19) ∧
    (Try.f61.ntmps = 19) ∧
    (Try.f62.ntmps = 19) ∧
    (Try.f63.ntmps = 14) ∧
    (Try.f64.ntmps = 10) ∧
    (Try.f65.ntmps = 78) ∧
    (Try.f66.ntmps = 160) ∧
    (Try.f67.ntmps = 8) ∧
    (Try.f68.ntmps = 5) ∧
    (Try.f69.ntmps = 15) ∧
    (Try.f70.ntmps = 19) ∧
    (Try.f71.ntmps = 66) ∧
    (Try.f72.ntmps = 33) ∧
    (Try.f73.ntmps = 40) ∧
    (Try.f74.ntmps = 48) ∧
    (Try.f75.ntmps = 18) ∧
    (Try.f76.ntmps = 19) ∧
    (Try.f77.ntmps = 34) ∧
    (Try.f78.ntmps = 15) ∧
    (Try.f79.ntmps = 6) ∧
    (Try.f80.ntmps = 53) ∧
    (Try.f81.ntmps = 32) ∧
    (Try.f82.ntmps = 44) ∧
    (Try.f100.ntmps = 40) ∧
    (Try.f101.ntmps = 20) ∧
    (Try.f102.ntmps = 27) ∧
    (Try.f103.ntmps = 13) :=
  ⟨rfl, rfl, rfl, rfl, rfl, rfl, rfl, rfl, rfl, rfl, rfl, rfl, rfl, rfl, rfl, rfl, rfl, rfl, rfl, rfl, rfl, rfl, rfl, rfl, rfl, rfl, rfl, rfl, rfl, rfl, rfl, rfl, rfl, rfl, rfl, rfl, rfl, rfl, rfl, rfl, rfl, rfl, rfl, rfl, rfl, rfl, rfl, rfl, rfl, rfl, rfl, rfl, rfl, rfl, rfl, rfl, rfl, rfl, rfl, rfl, rfl, rfl, rfl, rfl, rfl, rfl, rfl, rfl, rfl, rfl, rfl, rfl, rfl, rfl, rfl, rfl, rfl, rfl, rfl, rfl, rfl, rfl, rfl, rfl, rfl⟩
def sp :=
  PLift.up <|
  And.intro TEP <|
  And.intro TEtl <|
  And.intro tis <|
  And.intro ens nts
end Go.Proofs.Ytajcfppemkdomaa
