/- Lemmas for this claim, part P0: each holds under what it names. -/
import Derived.Test.YthdidjjecjhenaaGreatProg
import Derived.Test.YthdidjjecjhenaaGreatAA7
set_option linter.all false
set_option maxRecDepth 100000
namespace Go.Proofs.YthdidjjecjhenaaGreat
open Go Go.Proofs Go.Abs
open List renaming length → aa, replicate → aD
open Bool renaming true → ab, false → am
open Option renaming some → ar, none → aL
open Decidable renaming decide → aM
open Go.IntKind renaming wrap → a5
open Go.Result renaming andThen → a8
open Go.Abs.O renaming cells → aw
open Go.Abs.V renaming drops → aE, dat → a6, dats → a7
noncomputable abbrev P:=Go.Proofs.Tryz.prog
noncomputable def TE:E:={P:=P}
theorem TEP:TE.P=P:=rfl
-- no package variables told as values
theorem Y4:TE.tl=[]:=rfl
theorem dV:TE.P.follows .mixedOrders=ab:=rfl
theorem tis:(ti P 0=ar ⟨K.other,1,0,V.any⟩) /\
 (ti P 1=ar ⟨K.func,1,8,V.nilf⟩) /\
 (ti P 2=ar ⟨K.int IntKind.i64,1,8,V.int IntKind.i64 0⟩) /\
 (ti P 3=ar ⟨K.int IntKind.i64,1,8,V.int IntKind.i64 0⟩) /\
 (ti P 4=ar ⟨K.bool,1,1,V.bool am⟩) /\
 (ti P 5=ar ⟨K.int IntKind.u8,1,1,V.int IntKind.u8 0⟩) /\
 (ti P 6=ar ⟨K.int IntKind.u8,1,1,V.int IntKind.u8 0⟩) /\
 (ti P 7=ar ⟨K.struct [(0,2),(1,3),(2,4),(3,6)],4,24,V.agg [V.int IntKind.i64 0,V.int IntKind.i64 0,V.bool am,V.int IntKind.u8 0]⟩) /\
 (ti P 8=ar ⟨K.struct [(0,2),(1,3),(2,4),(3,6)],4,24,V.agg [V.int IntKind.i64 0,V.int IntKind.i64 0,V.bool am,V.int IntKind.u8 0]⟩) /\
 (ti P 9=ar ⟨K.str,1,16,V.str []⟩) /\
 (ti P 16=ar ⟨K.ptr 205,1,8,V.nilp⟩) /\
 (ti P 20=ar ⟨K.iface,1,16,V.nili⟩) /\
 (ti P 21=ar ⟨K.int IntKind.i32,1,4,V.int IntKind.i32 0⟩) /\
 (ti P 22=ar ⟨K.slice 3,1,24,V.nils⟩) /\
 (ti P 23=ar ⟨K.slice 106,1,24,V.nils⟩) /\
 (ti P 24=ar ⟨K.struct [(0,3),(1,22),(2,22),(3,23),(4,22)],5,104,V.agg [V.int IntKind.i64 0,V.nils,V.nils,V.nils,V.nils]⟩) /\
 (ti P 25=ar ⟨K.struct [(0,3),(1,22),(2,22),(3,23),(4,22)],5,104,V.agg [V.int IntKind.i64 0,V.nils,V.nils,V.nils,V.nils]⟩) /\
 (ti P 26=ar ⟨K.slice 9,1,24,V.nils⟩) /\
 (ti P 28=ar ⟨K.struct [(0,25),(5,26),(6,26),(7,26)],8,176,V.agg [V.int IntKind.i64 0,V.nils,V.nils,V.nils,V.nils,V.nils,V.nils,V.nils]⟩) /\
 (ti P 31=ar ⟨K.slice 4,1,24,V.nils⟩) /\
 (ti P 32=ar ⟨K.slice 31,1,24,V.nils⟩) /\
 (ti P 34=ar ⟨K.struct [(0,3),(1,3),(2,31),(3,31),(4,32),(5,3)],6,96,V.agg [V.int IntKind.i64 0,V.int IntKind.i64 0,V.nils,V.nils,V.nils,V.int IntKind.i64 0]⟩) /\
 (ti P 35=ar ⟨K.int IntKind.i64,1,8,V.int IntKind.i64 0⟩) /\
 (ti P 36=ar ⟨K.other,1,0,V.any⟩) /\
 (ti P 38=ar ⟨K.other,1,0,V.any⟩) /\
 (ti P 46=ar ⟨K.struct [(0,25),(5,22),(6,23)],7,152,V.agg [V.int IntKind.i64 0,V.nils,V.nils,V.nils,V.nils,V.nils,V.nils]⟩) /\
 (ti P 47=ar ⟨K.other,1,0,V.any⟩) /\
 (ti P 52=ar ⟨K.ptr 54,1,8,V.nilp⟩) /\
 (ti P 54=ar ⟨K.struct [(0,46),(7,3)],8,160,V.agg [V.int IntKind.i64 0,V.nils,V.nils,V.nils,V.nils,V.nils,V.nils,V.int IntKind.i64 0]⟩) /\
 (ti P 55=ar ⟨K.func,1,8,V.nilf⟩) /\
 (ti P 57=ar ⟨K.ptr 35,1,8,V.nilp⟩) /\
 (ti P 58=ar ⟨K.slice 136,1,24,V.nils⟩) /\
 (ti P 59=ar ⟨K.slice 22,1,24,V.nils⟩) /\
 (ti P 61=ar ⟨K.struct [(0,3),(1,58),(2,59)],3,56,V.agg [V.int IntKind.i64 0,V.nils,V.nils]⟩) /\
 (ti P 63=ar ⟨K.struct [(0,3),(1,31),(2,3),(3,58)],4,64,V.agg [V.int IntKind.i64 0,V.nils,V.int IntKind.i64 0,V.nils]⟩) /\
 (ti P 65=ar ⟨K.func,1,8,V.nilf⟩) /\
 (ti P 72=ar ⟨K.other,1,0,V.any⟩) /\
 (ti P 74=ar ⟨K.ptr 78,1,8,V.nilp⟩) /\
 (ti P 75=ar ⟨K.map 9 3,1,8,V.nilm⟩) /\
 (ti P 78=ar ⟨K.struct [(0,46),(7,75),(8,4)],9,168,V.agg [V.int IntKind.i64 0,V.nils,V.nils,V.nils,V.nils,V.nils,V.nils,V.nilm,V.bool am]⟩) /\
 (ti P 81=ar ⟨K.func,1,8,V.nilf⟩) /\
 (ti P 84=ar ⟨K.func,1,8,V.nilf⟩) /\
 (ti P 86=ar ⟨K.func,1,8,V.nilf⟩) /\
 (ti P 87=ar ⟨K.other,1,0,V.any⟩) /\
 (ti P 89=ar ⟨K.other,1,0,V.any⟩) /\
 (ti P 93=ar ⟨K.func,1,8,V.nilf⟩) /\
 (ti P 95=ar ⟨K.func,1,8,V.nilf⟩) /\
 (ti P 97=ar ⟨K.other,1,0,V.any⟩) /\
 (ti P 98=ar ⟨K.other,1,0,V.any⟩) /\
 (ti P 99=ar ⟨K.func,1,8,V.nilf⟩) /\
 (ti P 100=ar ⟨K.slice 28,1,24,V.nils⟩) /\
 (ti P 101=ar ⟨K.func,1,8,V.nilf⟩) /\
 (ti P 102=ar ⟨K.func,1,8,V.nilf⟩) /\
 (ti P 103=ar ⟨K.func,1,8,V.nilf⟩) /\
 (ti P 104=ar ⟨K.ptr 109,1,8,V.nilp⟩) /\
 (ti P 105=ar ⟨K.func,1,8,V.nilf⟩) /\
 (ti P 106=ar ⟨K.arr 2 3 (ar IntKind.i64),2,16,V.agg [V.int IntKind.i64 0,V.int IntKind.i64 0]⟩) /\
 (ti P 107=ar ⟨K.map 106 3,1,8,V.nilm⟩) /\
 (ti P 108=ar ⟨K.struct [(0,25),(5,107),(6,22)],7,136,V.agg [V.int IntKind.i64 0,V.nils,V.nils,V.nils,V.nils,V.nilm,V.nils]⟩) /\
 (ti P 109=ar ⟨K.struct [(0,25),(5,107),(6,22)],7,136,V.agg [V.int IntKind.i64 0,V.nils,V.nils,V.nils,V.nils,V.nilm,V.nils]⟩) /\
 (ti P 110=ar ⟨K.func,1,8,V.nilf⟩) /\
 (ti P 111=ar ⟨K.func,1,8,V.nilf⟩) /\
 (ti P 113=ar ⟨K.func,1,8,V.nilf⟩) /\
 (ti P 114=ar ⟨K.ptr 3,1,8,V.nilp⟩) /\
 (ti P 115=ar ⟨K.int IntKind.u64,1,8,V.int IntKind.u64 0⟩) /\
 (ti P 116=ar ⟨K.other,1,0,V.any⟩) /\
 (ti P 117=ar ⟨K.func,1,8,V.nilf⟩) /\
 (ti P 118=ar ⟨K.func,1,8,V.nilf⟩) /\
 (ti P 119=ar ⟨K.ptr 121,1,8,V.nilp⟩) /\
 (ti P 121=ar ⟨K.struct [(0,61),(3,25),(8,22)],9,184,V.agg [V.int IntKind.i64 0,V.nils,V.nils,V.int IntKind.i64 0,V.nils,V.nils,V.nils,V.nils,V.nils]⟩) /\
 (ti P 122=ar ⟨K.func,1,8,V.nilf⟩) /\
 (ti P 126=ar ⟨K.ptr 132,1,8,V.nilp⟩) /\
 (ti P 127=ar ⟨K.slice 138,1,24,V.nils⟩) /\
 (ti P 128=ar ⟨K.map 3 58,1,8,V.nilm⟩) /\
 (ti P 130=ar ⟨K.slice 142,1,24,V.nils⟩) /\
 (ti P 132=ar ⟨K.struct [(0,127),(1,128),(2,22),(3,3),(4,22),(5,130),(6,58),(7,3)],8,144,V.agg [V.nils,V.nilm,V.nils,V.int IntKind.i64 0,V.nils,V.nils,V.nils,V.int IntKind.i64 0]⟩) /\
 (ti P 134=ar ⟨K.struct [(0,3)],1,8,V.agg [V.int IntKind.i64 0]⟩) /\
 (ti P 135=ar ⟨K.other,1,0,V.any⟩) /\
 (ti P 136=ar ⟨K.slice 3,1,24,V.nils⟩) /\
 (ti P 138=ar ⟨K.struct [(0,3),(1,3),(2,136),(3,3),(4,3)],5,56,V.agg [V.int IntKind.i64 0,V.int IntKind.i64 0,V.nils,V.int IntKind.i64 0,V.int IntKind.i64 0]⟩) /\
 (ti P 140=ar ⟨K.ptr 130,1,8,V.nilp⟩) /\
 (ti P 142=ar ⟨K.struct [(0,3),(1,3)],2,16,V.agg [V.int IntKind.i64 0,V.int IntKind.i64 0]⟩) /\
 (ti P 145=ar ⟨K.other,1,0,V.any⟩) /\
 (ti P 152=ar ⟨K.func,1,8,V.nilf⟩) /\
 (ti P 155=ar ⟨K.func,1,8,V.nilf⟩) /\
 (ti P 160=ar ⟨K.func,1,8,V.nilf⟩) /\
 (ti P 162=ar ⟨K.iface,1,16,V.nili⟩) /\
 (ti P 171=ar ⟨K.map 9 4,1,8,V.nilm⟩) /\
 (ti P 172=ar ⟨K.slice 26,1,24,V.nils⟩) /\
 (ti P 177=ar ⟨K.func,1,8,V.nilf⟩) /\
 (ti P 183=ar ⟨K.ptr 138,1,8,V.nilp⟩) /\
 (ti P 185=ar ⟨K.other,1,0,V.any⟩) /\
 (ti P 187=ar ⟨K.other,1,0,V.any⟩) /\
 (ti P 192=ar ⟨K.str,1,16,V.str []⟩) /\
 (ti P 193=ar ⟨K.func,1,8,V.nilf⟩) /\
 (ti P 194=ar ⟨K.map 3 4,1,8,V.nilm⟩) /\
 (ti P 197=ar ⟨K.func,1,8,V.nilf⟩) /\
 (ti P 203=ar ⟨K.arr 0 16 aL,0,0,V.agg []⟩) /\
 (ti P 205=ar ⟨K.struct [(0,203)],0,0,V.agg []⟩) :=
  by repeat' first|exact rfl|apply And.intro
theorem ens:(au P 3=ab) /\
 (au P 4=ab) /\
 (au P 5=ab) /\
 (au P 6=ab) /\
 (au P 7=ab) /\
 (au P 8=ab) /\
 (au P 9=ab) /\
 (au P 10=ab) /\
 (au P 11=ab) /\
 (au P 12=ab) /\
 (au P 13=ab) /\
 (au P 14=ab) /\
 (au P 15=ab) /\
 (au P 16=ab) /\
 (au P 17=ab) /\
 (au P 18=ab) /\
 (au P 19=ab) /\
 (au P 20=ab) /\
 (au P 21=ab) /\
 (au P 22=ab) /\
 (au P 23=ab) /\
 (au P 24=ab) /\
 (au P 25=ab) /\
 (au P 26=ab) /\
 (au P 27=ab) /\
 (au P 28=ab) /\
 (au P 29=ab) /\
 (au P 30=ab) /\
 (au P 31=ab) /\
 (au P 32=ab) /\
 (au P 33=ab) /\
 (au P 34=ab) /\
 (au P 35=ab) /\
 (au P 36=ab) /\
 (au P 37=ab) /\
 (au P 38=ab) /\
 (au P 39=ab) /\
 (au P 40=ab) /\
 (au P 41=ab) /\
 (au P 42=ab) /\
 (au P 43=ab) /\
 (au P 44=ab) /\
 (au P 45=ab) /\
 (au P 46=ab) /\
 (au P 47=ab) /\
 (au P 48=ab) /\
 (au P 49=ab) /\
 (au P 50=ab) /\
 (au P 51=ab) /\
 (au P 52=ab) /\
 (au P 53=ab) /\
 (au P 54=ab) /\
 (au P 55=ab) /\
 (au P 56=ab) /\
 (au P 57=ab) /\
 (au P 58=ab) /\
 (au P 59=ab) /\
 (au P 60=ab) /\
 (au P 61=ab) /\
 (au P 62=ab) /\
 (au P 63=ab) /\
 (au P 64=ab) /\
 (au P 65=ab) /\
 (au P 66=ab) /\
 (au P 67=ab) /\
 (au P 68=ab) /\
 (au P 69=ab) /\
 (au P 70=ab) /\
 (au P 71=ab) /\
 (au P 72=ab) /\
 (au P 73=ab) /\
 (au P 74=ab) /\
 (au P 75=ab) /\
 (au P 76=ab) /\
 (au P 77=ab) /\
 (au P 78=ab) /\
 (au P 79=ab) /\
 (au P 80=ab) /\
 (au P 81=ab) /\
 (au P 82=ab) /\
 (au P 83=ab) /\
 (au P 84=ab) /\
 (au P 85=ab) /\
 (au P 86=ab) /\
 (au P 87=ab) /\
 (au P 88=ab) /\
 (au P 89=ab) /\
 (au P 90=ab) /\
 (au P 91=ab) /\
 (au P 92=ab) /\
 (au P 93=ab) /\
 (au P 94=ab) /\
 (au P 95=ab) /\
 (au P 96=ab) /\
 (au P 97=ab) /\
 (au P 98=ab) /\
 (au P 99=ab) /\
 (au P 100=ab) /\
 (au P 101=ab) /\
 (au P 102=ab) /\
 (au P 103=ab) /\
 (au P 104=ab) /\
 (au P 105=ab) /\
 (au P 106=ab) /\
 (au P 107=ab) /\
 (au P 108=ab) /\
 (au P 109=ab) /\
 (au P 110=ab) /\
 (au P 111=ab) /\
 (au P 112=ab) /\
 (au P 113=ab) /\
 (au P 114=ab) /\
 (au P 115=ab) /\
 (au P 116=ab) /\
 (au P 117=ab) /\
 (au P 118=ab) /\
 (au P 119=ab) /\
 (au P 120=ab) /\
 (au P 121=ab) /\
 (au P 122=ab) /\
 (au P 123=ab) /\
 (au P 124=ab) /\
 (au P 125=ab) /\
 (au P 126=ab) /\
 (au P 127=ab) /\
 (au P 128=ab) /\
 (au P 129=ab) /\
 (au P 130=ab) /\
 (au P 131=ab) /\
 (au P 132=ab) /\
 (au P 133=ab) /\
 (au P 151=ab) /\
 (au P 152=ab) /\
 (au P 153=ab) /\
 (au P 154=ab) :=
  by repeat' first|exact rfl|apply And.intro
theorem nts:(Tryz.f3.ntmps=128) /\
 (Tryz.f4.ntmps=103) /\
 (Tryz.f5.ntmps=154) /\
 (Tryz.f6.ntmps=29) /\
 (Tryz.f7.ntmps=79) /\
 (Tryz.f8.ntmps=105) /\
 (Tryz.f9.ntmps=27) /\
 (Tryz.f10.ntmps=64) /\
 (Tryz.f11.ntmps=46) /\
 (Tryz.f12.ntmps=236) /\
 (Tryz.f13.ntmps=45) /\
 (Tryz.f14.ntmps=35) /\
 (Tryz.f15.ntmps=27) /\
 (Tryz.f16.ntmps=8) /\
 (Tryz.f17.ntmps=107) /\
 (Tryz.f18.ntmps=10) /\
 (Tryz.f19.ntmps=9) /\
 (Tryz.f20.ntmps=55) /\
 (Tryz.f21.ntmps=60) /\
 (Tryz.f22.ntmps=41) /\
 (Tryz.f23.ntmps=19) /\
 (Tryz.f24.ntmps=80) /\
 (Tryz.f25.ntmps=36) /\
 (Tryz.f26.ntmps=95) /\
 (Tryz.f27.ntmps=19) /\
 (Tryz.f28.ntmps=122) /\
 (Tryz.f29.ntmps=8) /\
 (Tryz.f30.ntmps=104) /\
 (Tryz.f31.ntmps=33) /\
 (Tryz.f32.ntmps=26) /\
 (Tryz.f33.ntmps=32) /\
 (Tryz.f34.ntmps=67) /\
 (Tryz.f35.ntmps=80) /\
 (Tryz.f36.ntmps=55) /\
 (Tryz.f37.ntmps=74) /\
 (Tryz.f38.ntmps=23) /\
 (Tryz.f39.ntmps=40) /\
 (Tryz.f40.ntmps=19) /\
 (Tryz.f41.ntmps=10) /\
 (Tryz.f42.ntmps=19) /\
 (Tryz.f43.ntmps=30) /\
 (Tryz.f44.ntmps=31) /\
 (Tryz.f45.ntmps=19) /\
 (Tryz.f46.ntmps=61) /\
 (Tryz.f47.ntmps=84) /\
 (Tryz.f48.ntmps=21) /\
 (Tryz.f49.ntmps=103) /\
 (Tryz.f50.ntmps=32) /\
 (Tryz.f51.ntmps=77) /\
 (Tryz.f52.ntmps=16) /\
 (Tryz.f53.ntmps=25) /\
 (Tryz.f54.ntmps=21) /\
 (Tryz.f55.ntmps=10) /\
 (Tryz.f56.ntmps=36) /\
 (Tryz.f57.ntmps=13) /\
 (Tryz.f58.ntmps=63) /\
 (Tryz.f59.ntmps=54) /\
 (Tryz.f60.ntmps=16) /\
 (Tryz.f61.ntmps=17) /\
 (Tryz.f62.ntmps=23) /\
 (Tryz.f63.ntmps=118) /\
 (Tryz.f64.ntmps=21) /\
 (Tryz.f65.ntmps=48) /\
 (Tryz.f66.ntmps=12) /\
 (Tryz.f67.ntmps=60) /\
 (Tryz.f68.ntmps=32) /\
 (Tryz.f69.ntmps=8) /\
 (Tryz.f70.ntmps=25) /\
 (Tryz.f71.ntmps=57) /\
 (Tryz.f72.ntmps=21) /\
 (Tryz.f73.ntmps=14) /\
 (Tryz.f74.ntmps=65) /\
 (Tryz.f75.ntmps=14) /\
 (Tryz.f76.ntmps=5) /\
 (Tryz.f77.ntmps=19) /\
 (Tryz.f78.ntmps=36) /\
 (Tryz.f79.ntmps=18) /\
 (Tryz.f80.ntmps=14) /\
 (Tryz.f81.ntmps=9) /\
 (Tryz.f82.ntmps=11) /\
 (Tryz.f83.ntmps=9) /\
 (Tryz.f84.ntmps=9) /\
 (Tryz.f85.ntmps=50) /\
 (Tryz.f86.ntmps=25) /\
 (Tryz.f87.ntmps=6) /\
 (Tryz.f88.ntmps=27) /\
 (Tryz.f89.ntmps=9) /\
 (Tryz.f90.ntmps=17) /\
 (Tryz.f91.ntmps=9) /\
 (Tryz.f92.ntmps=7) /\
 (Tryz.f93.ntmps=9) /\
 (Tryz.f94.ntmps=23) /\
 (Tryz.f95.ntmps=9) /\
 (Tryz.f96.ntmps=28) /\
 (Tryz.f97.ntmps=20) /\
 (Tryz.f98.ntmps=40) /\
 (Tryz.f99.ntmps=1) /\
 (Tryz.f100.ntmps=85) /\
 (Tryz.f101.ntmps=63) /\
 (Tryz.f102.ntmps=67) /\
 (Tryz.f103.ntmps=87) /\
 (Tryz.f104.ntmps=36) /\
 (Tryz.f105.ntmps=125) /\
 (Tryz.f106.ntmps=6) /\
 (Tryz.f107.ntmps=5) /\
 (Tryz.f108.ntmps=27) /\
 (Tryz.f109.ntmps=19) /\
 (Tryz.f110.ntmps=8) /\
 (Tryz.f111.ntmps=50) /\
 (Tryz.f112.ntmps=4) /\
 (Tryz.f113.ntmps=19) /\
 (Tryz.f114.ntmps=19) /\
 (Tryz.f115.ntmps=19) /\
 (Tryz.f116.ntmps=14) /\
 (Tryz.f117.ntmps=10) /\
 (Tryz.f118.ntmps=26) /\
 (Tryz.f119.ntmps=78) /\
 (Tryz.f120.ntmps=160) /\
 (Tryz.f121.ntmps=8) /\
 (Tryz.f122.ntmps=5) /\
 (Tryz.f123.ntmps=15) /\
 (Tryz.f124.ntmps=27) /\
 (Tryz.f125.ntmps=10) /\
 (Tryz.f126.ntmps=13) /\
 (Tryz.f127.ntmps=17) /\
 (Tryz.f128.ntmps=19) /\
 (Tryz.f129.ntmps=40) /\
 (Tryz.f130.ntmps=48) /\
 (Tryz.f131.ntmps=9) /\
 (Tryz.f132.ntmps=8) /\
 (Tryz.f133.ntmps=21) /\
 (Tryz.f151.ntmps=40) /\
 (Tryz.f152.ntmps=20) /\
 (Tryz.f153.ntmps=27) /\
 (Tryz.f154.ntmps=13) :=
  by repeat' first|exact rfl|apply And.intro
def wq :=
 PLift.up <|
 zsa sa0.down <|
 zsa sa1.down <|
 zsa sa2.down <|
 zsa sa3.down <|
 zsa sa4.down <|
 zsa sb0.down <|
 zsa sb1.down <|
 zsa sb2.down <|
 zsa sb3.down <|
 zsa TEP <|
 zsa Y4 <|
 zsa tis <|
 zsa ens nts
variable{r:Option Nat}{c:Code}{Q:XE->Fr->H->Prop}
theorem vm{n:Nat}{f:Fr}{h:H}(hv:vc TE n r c Q f h):awp TE n r c Q f h:=qZ dV _ _ _ _ hv
theorem vn{n:Nat}{d:Code}{f:Fr}{h:H}(hv:vc TE n r c (XE.seq (awp TE n r d Q) Q) f h):awp TE n r (.seq c d) Q f h:=ak (qZ dV _ _ _ _ hv)
end Go.Proofs.YthdidjjecjhenaaGreat
