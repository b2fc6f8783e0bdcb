/- Lemmas for this claim, part F02: each holds under what it names. -/
import Derived.Test.YtokppohljajhjaaGreatDoorF01
import Derived.Shelf.Strings.Count
import Derived.Shelf.Strings.LastIndex
import Derived.Shelf.Small.Strs
import Derived.Shelf.Strings.Repeat
import Derived.Shelf.Strings.SlTrimAscii
import Derived.Shelf.Strings.IndexAnyAll
import Derived.Shelf.Strings.Search3
import Derived.Test.YtokppohljajhjaaGreatDoorA9
import Derived.Test.YtokppohljajhjaaGreatDoorA8
set_option linter.all false
set_option maxRecDepth 20000
set_option maxHeartbeats 4000000
namespace Go.Proofs.YtokppohljajhjaaGreatDoor
open Go Go.Proofs Go.Abs Go.RowKit Go.Shelf Go.Lib
def zZ:Go.Shelf.Ren:=⟨fun|137=>160|217=>164|266=>174|n=>n,fun|9=>9|5=>5|3=>3|n=>n,fun|n=>n⟩
theorem FP[MO]:Go.Proofs.Lays.n137 Tryz.prog zZ where
 mixed:=by kernel_rfl
 f137:=Tryz.func160.trans (congrArg some (by kernel_rfl))
 f217:=Tryz.func164.trans (congrArg some (by kernel_rfl))
 f266:=Tryz.func174.trans (congrArg some (by kernel_rfl))
 t3:=Tryz.underlying3
 a3:=Tryz.isAgg3
 z3:=Tryz.sizeOf3
 v3:=Tryz.zeroValue3
 t5:=Tryz.underlying5
 a5:=Tryz.isAgg5
 z5:=Tryz.sizeOf5
 v5:=Tryz.zeroValue5
 t9:=Tryz.underlying9
 a9:=Tryz.isAgg9
 z9:=Tryz.sizeOf9
 v9:=Tryz.zeroValue9
def L8:Go.Shelf.Ren:=⟨fun|138=>94|195=>122|218=>123|143=>124|219=>149|217=>164|225=>165|224=>166|267=>167|266=>174|314=>175|n=>n,fun|9=>9|3=>3|4=>4|5=>5|0=>0|46=>124|146=>181|51=>180|n=>n,fun|1=>5|n=>n⟩
theorem Ri[MO]:Go.Proofs.Lays.n138 Tryz.prog L8 where
 mixed:=by kernel_rfl
 f138:=Tryz.func94.trans (congrArg some (by kernel_rfl))
 f143:=Tryz.func124.trans (congrArg some (by kernel_rfl))
 f195:=Tryz.func122.trans (congrArg some (by kernel_rfl))
 f217:=Tryz.func164.trans (congrArg some (by kernel_rfl))
 f218:=Tryz.func123.trans (congrArg some (by kernel_rfl))
 f219:=Tryz.func149.trans (congrArg some (by kernel_rfl))
 f224:=Tryz.func166.trans (congrArg some (by kernel_rfl))
 f225:=Tryz.func165.trans (congrArg some (by kernel_rfl))
 f266:=Tryz.func174.trans (congrArg some (by kernel_rfl))
 f267:=Tryz.func167.trans (congrArg some (by kernel_rfl))
 f314:=Tryz.func175.trans (congrArg some (by kernel_rfl))
 t0:=Tryz.underlying0
 a0:=Tryz.isAgg0
 z0:=Tryz.sizeOf0
 v0:=Tryz.zeroValue0
 t3:=Tryz.underlying3
 a3:=Tryz.isAgg3
 z3:=Tryz.sizeOf3
 v3:=Tryz.zeroValue3
 t4:=Tryz.underlying4
 a4:=Tryz.isAgg4
 z4:=Tryz.sizeOf4
 v4:=Tryz.zeroValue4
 t5:=Tryz.underlying5
 a5:=Tryz.isAgg5
 z5:=Tryz.sizeOf5
 v5:=Tryz.zeroValue5
 t9:=Tryz.underlying9
 a9:=Tryz.isAgg9
 z9:=Tryz.sizeOf9
 v9:=Tryz.zeroValue9
 t46:=Tryz.underlying124
 a46:=Tryz.isAgg124
 z46:=Tryz.sizeOf124
 v46:=Tryz.zeroValue124
 t51:=Tryz.underlying180
 a51:=Tryz.isAgg180
 z51:=Tryz.sizeOf180
 v51:=Tryz.zeroValue180
 t146:=Tryz.underlying181
 a146:=Tryz.isAgg181
 z146:=Tryz.sizeOf181
 v146:=Tryz.zeroValue181
 g1:=by kernel_rfl
def Aa:Go.Shelf.Ren:=⟨fun|148=>133|222=>153|223=>154|269=>168|n=>n,fun|9=>9|3=>3|4=>4|5=>5|146=>181|51=>180|46=>124|n=>n,fun|n=>n⟩
theorem FQ[MO]:Go.Proofs.Lays.n148 Tryz.prog Aa where
 mixed:=by kernel_rfl
 f148:=Tryz.func133.trans (congrArg some (by kernel_rfl))
 f222:=Tryz.func153.trans (congrArg some (by kernel_rfl))
 f223:=Tryz.func154.trans (congrArg some (by kernel_rfl))
 f269:=Tryz.func168.trans (congrArg some (by kernel_rfl))
 t3:=Tryz.underlying3
 a3:=Tryz.isAgg3
 z3:=Tryz.sizeOf3
 v3:=Tryz.zeroValue3
 t4:=Tryz.underlying4
 a4:=Tryz.isAgg4
 z4:=Tryz.sizeOf4
 v4:=Tryz.zeroValue4
 t5:=Tryz.underlying5
 a5:=Tryz.isAgg5
 z5:=Tryz.sizeOf5
 v5:=Tryz.zeroValue5
 t9:=Tryz.underlying9
 a9:=Tryz.isAgg9
 z9:=Tryz.sizeOf9
 v9:=Tryz.zeroValue9
 t46:=Tryz.underlying124
 a46:=Tryz.isAgg124
 z46:=Tryz.sizeOf124
 v46:=Tryz.zeroValue124
 t51:=Tryz.underlying180
 a51:=Tryz.isAgg180
 z51:=Tryz.sizeOf180
 v51:=Tryz.zeroValue180
 t146:=Tryz.underlying181
 a146:=Tryz.isAgg181
 z146:=Tryz.sizeOf181
 v146:=Tryz.zeroValue181
def Pj:Go.Shelf.Ren:=⟨fun|160=>112|232=>135|231=>134|227=>136|234=>138|233=>137|236=>140|235=>139|228=>155|271=>158|151=>157|197=>156|120=>171|152=>170|260=>169|137=>160|119=>176|224=>166|225=>165|217=>164|266=>174|n=>n,fun|9=>9|4=>4|3=>3|5=>5|117=>221|116=>220|0=>0|124=>224|21=>21|105=>235|46=>124|119=>244|139=>247|138=>246|n=>n,fun|3=>8|4=>9|n=>n⟩
theorem S9[MO]:Go.Proofs.Lays.n160 Tryz.prog Pj where
 mixed:=by kernel_rfl
 f119:=Tryz.func176.trans (congrArg some (by kernel_rfl))
 f120:=Tryz.func171.trans (congrArg some (by kernel_rfl))
 f137:=Tryz.func160.trans (congrArg some (by kernel_rfl))
 f151:=Tryz.func157.trans (congrArg some (by kernel_rfl))
 f152:=Tryz.func170.trans (congrArg some (by kernel_rfl))
 f160:=Tryz.func112.trans (congrArg some (by kernel_rfl))
 f197:=Tryz.func156.trans (congrArg some (by kernel_rfl))
 f217:=Tryz.func164.trans (congrArg some (by kernel_rfl))
 f224:=Tryz.func166.trans (congrArg some (by kernel_rfl))
 f225:=Tryz.func165.trans (congrArg some (by kernel_rfl))
 f227:=Tryz.func136.trans (congrArg some (by kernel_rfl))
 f228:=Tryz.func155.trans (congrArg some (by kernel_rfl))
 f231:=Tryz.func134.trans (congrArg some (by kernel_rfl))
 f232:=Tryz.func135.trans (congrArg some (by kernel_rfl))
 f233:=Tryz.func137.trans (congrArg some (by kernel_rfl))
 f234:=Tryz.func138.trans (congrArg some (by kernel_rfl))
 f235:=Tryz.func139.trans (congrArg some (by kernel_rfl))
 f236:=Tryz.func140.trans (congrArg some (by kernel_rfl))
 f260:=Tryz.func169.trans (congrArg some (by kernel_rfl))
 f266:=Tryz.func174.trans (congrArg some (by kernel_rfl))
 f271:=Tryz.func158.trans (congrArg some (by kernel_rfl))
 t0:=Tryz.underlying0
 a0:=Tryz.isAgg0
 z0:=Tryz.sizeOf0
 v0:=Tryz.zeroValue0
 t3:=Tryz.underlying3
 a3:=Tryz.isAgg3
 z3:=Tryz.sizeOf3
 v3:=Tryz.zeroValue3
 t4:=Tryz.underlying4
 a4:=Tryz.isAgg4
 z4:=Tryz.sizeOf4
 v4:=Tryz.zeroValue4
 t5:=Tryz.underlying5
 a5:=Tryz.isAgg5
 z5:=Tryz.sizeOf5
 v5:=Tryz.zeroValue5
 t9:=Tryz.underlying9
 a9:=Tryz.isAgg9
 z9:=Tryz.sizeOf9
 v9:=Tryz.zeroValue9
 t21:=Tryz.underlying21
 a21:=Tryz.isAgg21
 z21:=Tryz.sizeOf21
 v21:=Tryz.zeroValue21
 t46:=Tryz.underlying124
 a46:=Tryz.isAgg124
 z46:=Tryz.sizeOf124
 v46:=Tryz.zeroValue124
 t105:=Tryz.underlying235
 a105:=Tryz.isAgg235
 z105:=Tryz.sizeOf235
 v105:=Tryz.zeroValue235
 t116:=Tryz.underlying220
 a116:=Tryz.isAgg220
 z116:=Tryz.sizeOf220
 t117:=Tryz.underlying221
 a117:=Tryz.isAgg221
 z117:=Tryz.sizeOf221
 v117:=Tryz.zeroValue221
 t119:=Tryz.underlying244
 a119:=Tryz.isAgg244
 z119:=Tryz.sizeOf244
 t124:=Tryz.underlying224
 a124:=Tryz.isAgg224
 z124:=Tryz.sizeOf224
 v124:=Tryz.zeroValue224
 t138:=Tryz.underlying246
 a138:=Tryz.isAgg246
 z138:=Tryz.sizeOf246
 v138:=Tryz.zeroValue246
 t139:=Tryz.underlying247
 a139:=Tryz.isAgg247
 z139:=Tryz.sizeOf247
 v139:=Tryz.zeroValue247
 g3:=by kernel_rfl
 g4:=by kernel_rfl
def wE:Go.Shelf.Ren:=⟨fun|150=>143|153=>161|152=>170|226=>173|227=>136|228=>155|137=>160|119=>176|224=>166|225=>165|217=>164|266=>174|n=>n,fun|9=>9|4=>4|3=>3|5=>5|21=>21|117=>221|116=>220|0=>0|46=>124|124=>224|n=>n,fun|n=>n⟩
theorem Ac[MO]:Go.Proofs.Lays.n150 Tryz.prog wE where
 mixed:=by kernel_rfl
 f119:=Tryz.func176.trans (congrArg some (by kernel_rfl))
 f137:=Tryz.func160.trans (congrArg some (by kernel_rfl))
 f150:=Tryz.func143.trans (congrArg some (by kernel_rfl))
 f152:=Tryz.func170.trans (congrArg some (by kernel_rfl))
 f153:=Tryz.func161.trans (congrArg some (by kernel_rfl))
 f217:=Tryz.func164.trans (congrArg some (by kernel_rfl))
 f224:=Tryz.func166.trans (congrArg some (by kernel_rfl))
 f225:=Tryz.func165.trans (congrArg some (by kernel_rfl))
 f226:=Tryz.func173.trans (congrArg some (by kernel_rfl))
 f227:=Tryz.func136.trans (congrArg some (by kernel_rfl))
 f228:=Tryz.func155.trans (congrArg some (by kernel_rfl))
 f266:=Tryz.func174.trans (congrArg some (by kernel_rfl))
 t0:=Tryz.underlying0
 a0:=Tryz.isAgg0
 z0:=Tryz.sizeOf0
 v0:=Tryz.zeroValue0
 t3:=Tryz.underlying3
 a3:=Tryz.isAgg3
 z3:=Tryz.sizeOf3
 v3:=Tryz.zeroValue3
 t4:=Tryz.underlying4
 a4:=Tryz.isAgg4
 z4:=Tryz.sizeOf4
 v4:=Tryz.zeroValue4
 t5:=Tryz.underlying5
 a5:=Tryz.isAgg5
 z5:=Tryz.sizeOf5
 v5:=Tryz.zeroValue5
 t9:=Tryz.underlying9
 a9:=Tryz.isAgg9
 z9:=Tryz.sizeOf9
 v9:=Tryz.zeroValue9
 t21:=Tryz.underlying21
 a21:=Tryz.isAgg21
 z21:=Tryz.sizeOf21
 v21:=Tryz.zeroValue21
 t46:=Tryz.underlying124
 a46:=Tryz.isAgg124
 z46:=Tryz.sizeOf124
 v46:=Tryz.zeroValue124
 t116:=Tryz.underlying220
 a116:=Tryz.isAgg220
 z116:=Tryz.sizeOf220
 t117:=Tryz.underlying221
 a117:=Tryz.isAgg221
 z117:=Tryz.sizeOf221
 v117:=Tryz.zeroValue221
 t124:=Tryz.underlying224
 a124:=Tryz.isAgg224
 z124:=Tryz.sizeOf224
 v124:=Tryz.zeroValue224
def L9:Go.Shelf.Ren:=⟨fun|143=>124|219=>149|217=>164|225=>165|224=>166|267=>167|266=>174|314=>175|n=>n,fun|9=>9|3=>3|4=>4|5=>5|46=>124|146=>181|51=>180|n=>n,fun|1=>5|n=>n⟩
theorem Rj[MO]:Go.Proofs.Lays.n143 Tryz.prog L9 where
 mixed:=by kernel_rfl
 f143:=Tryz.func124.trans (congrArg some (by kernel_rfl))
 f217:=Tryz.func164.trans (congrArg some (by kernel_rfl))
 f219:=Tryz.func149.trans (congrArg some (by kernel_rfl))
 f224:=Tryz.func166.trans (congrArg some (by kernel_rfl))
 f225:=Tryz.func165.trans (congrArg some (by kernel_rfl))
 f266:=Tryz.func174.trans (congrArg some (by kernel_rfl))
 f267:=Tryz.func167.trans (congrArg some (by kernel_rfl))
 f314:=Tryz.func175.trans (congrArg some (by kernel_rfl))
 t3:=Tryz.underlying3
 a3:=Tryz.isAgg3
 z3:=Tryz.sizeOf3
 v3:=Tryz.zeroValue3
 t4:=Tryz.underlying4
 a4:=Tryz.isAgg4
 z4:=Tryz.sizeOf4
 v4:=Tryz.zeroValue4
 t5:=Tryz.underlying5
 a5:=Tryz.isAgg5
 z5:=Tryz.sizeOf5
 v5:=Tryz.zeroValue5
 t9:=Tryz.underlying9
 a9:=Tryz.isAgg9
 z9:=Tryz.sizeOf9
 v9:=Tryz.zeroValue9
 t46:=Tryz.underlying124
 a46:=Tryz.isAgg124
 z46:=Tryz.sizeOf124
 v46:=Tryz.zeroValue124
 t51:=Tryz.underlying180
 a51:=Tryz.isAgg180
 z51:=Tryz.sizeOf180
 v51:=Tryz.zeroValue180
 t146:=Tryz.underlying181
 a146:=Tryz.isAgg181
 z146:=Tryz.sizeOf181
 v146:=Tryz.zeroValue181
 g1:=by kernel_rfl
def Ad:Go.Shelf.Ren:=⟨fun|105=>28|212=>67|99=>68|165=>69|166=>23|170=>70|169=>24|263=>106|264=>107|206=>108|240=>52|241=>109|276=>95|277=>132|n=>n,fun|9=>9|3=>3|4=>4|20=>20|0=>0|46=>124|109=>125|5=>5|72=>60|76=>69|51=>180|146=>181|53=>183|148=>184|70=>57|37=>58|75=>68|127=>108|164=>158|80=>71|n=>n,fun|n=>n⟩
theorem Pm[MO]:Go.Proofs.Lays.n105 Tryz.prog Ad where
 mixed:=by kernel_rfl
 f99:=Tryz.func68.trans (congrArg some (by kernel_rfl))
 f105:=Tryz.func28.trans (congrArg some (by kernel_rfl))
 f165:=Tryz.func69.trans (congrArg some (by kernel_rfl))
 f166:=Tryz.func23.trans (congrArg some (by kernel_rfl))
 f169:=Tryz.func24.trans (congrArg some (by kernel_rfl))
 f170:=Tryz.func70.trans (congrArg some (by kernel_rfl))
 f206:=Tryz.func108.trans (congrArg some (by kernel_rfl))
 f212:=Tryz.func67.trans (congrArg some (by kernel_rfl))
 f240:=Tryz.func52.trans (congrArg some (by kernel_rfl))
 f241:=Tryz.func109.trans (congrArg some (by kernel_rfl))
 f263:=Tryz.func106.trans (congrArg some (by kernel_rfl))
 f264:=Tryz.func107.trans (congrArg some (by kernel_rfl))
 f276:=Tryz.func95.trans (congrArg some (by kernel_rfl))
 f277:=Tryz.func132.trans (congrArg some (by kernel_rfl))
 t0:=Tryz.underlying0
 a0:=Tryz.isAgg0
 z0:=Tryz.sizeOf0
 v0:=Tryz.zeroValue0
 t3:=Tryz.underlying3
 a3:=Tryz.isAgg3
 z3:=Tryz.sizeOf3
 v3:=Tryz.zeroValue3
 t4:=Tryz.underlying4
 a4:=Tryz.isAgg4
 z4:=Tryz.sizeOf4
 v4:=Tryz.zeroValue4
 t5:=Tryz.underlying5
 a5:=Tryz.isAgg5
 z5:=Tryz.sizeOf5
 v5:=Tryz.zeroValue5
 t9:=Tryz.underlying9
 a9:=Tryz.isAgg9
 z9:=Tryz.sizeOf9
 v9:=Tryz.zeroValue9
 t20:=Tryz.underlying20
 a20:=Tryz.isAgg20
 z20:=Tryz.sizeOf20
 v20:=Tryz.zeroValue20
 t37:=Tryz.underlying58
 a37:=Tryz.isAgg58
 z37:=Tryz.sizeOf58
 v37:=Tryz.zeroValue58
 t46:=Tryz.underlying124
 a46:=Tryz.isAgg124
 z46:=Tryz.sizeOf124
 v46:=Tryz.zeroValue124
 t51:=Tryz.underlying180
 a51:=Tryz.isAgg180
 z51:=Tryz.sizeOf180
 v51:=Tryz.zeroValue180
 t53:=Tryz.underlying183
 a53:=Tryz.isAgg183
 z53:=Tryz.sizeOf183
 v53:=Tryz.zeroValue183
 t70:=Tryz.underlying57
 a70:=Tryz.isAgg57
 z70:=Tryz.sizeOf57
 v70:=Tryz.zeroValue57
 t72:=Tryz.underlying60
 a72:=Tryz.isAgg60
 z72:=Tryz.sizeOf60
 v72:=Tryz.zeroValue60
 t75:=Tryz.underlying68
 a75:=Tryz.isAgg68
 z75:=Tryz.sizeOf68
 v75:=Tryz.zeroValue68
 t76:=Tryz.underlying69
 a76:=Tryz.isAgg69
 z76:=Tryz.sizeOf69
 v76:=Tryz.zeroValue69
 t109:=Tryz.underlying125
 a109:=Tryz.isAgg125
 z109:=Tryz.sizeOf125
 v109:=Tryz.zeroValue125
 t127:=Tryz.underlying108
 a127:=Tryz.isAgg108
 z127:=Tryz.sizeOf108
 v127:=Tryz.zeroValue108
 t146:=Tryz.underlying181
 a146:=Tryz.isAgg181
 z146:=Tryz.sizeOf181
 v146:=Tryz.zeroValue181
 t148:=Tryz.underlying184
 a148:=Tryz.isAgg184
 z148:=Tryz.sizeOf184
 v148:=Tryz.zeroValue184
 t164:=Tryz.underlying158
 a164:=Tryz.isAgg158
 z164:=Tryz.sizeOf158
 v164:=Tryz.zeroValue158
theorem mJ{c:C}{l:S}{x:Value}(h:VRel c (.str l) x):x= .string ⟨l.toArray⟩:=by
 simp only[VRel]at h;obtain⟨s,rfl,h,_⟩:=h
 congr 1
 rw[<-h]
theorem Ef[MO](s:S)(n:Nat)(hn:n<256):Ev TE 160 [.str s,.int .u8 n] (vi (Lib.indexByte s (UInt8.ofNat n))):=by intro ok w vs hs hl;simp only[VList,VRel]at hl;obtain⟨y,ys,rfl,⟨b,rfl,hb,_⟩,y2,ys2,rfl,rfl,rfl⟩:=hl;refine Calls.mono (Any.strings_IndexByte FP b n w) ?_;rintro en w' ⟨rfl,rfl⟩;refine⟨_,rfl,WExt.refl _,?_⟩;simp only[VRel];rw[hb];rfl
theorem Ae[MO](s:S)(c:UInt8):Ev TE 94 [.str s,.str [c]] (vi (s.count c:Nat)):=by intro ok w vs hs hl;simp only[VList]at hl;obtain⟨y,ys,rfl,h1,y2,ys2,rfl,h2,rfl⟩:=hl;have:=mJ h1;subst this;have:=mJ h2;subst this;refine Calls.mono (Any.strings_Count_one Ri ⟨s.toArray⟩ c w) ?_;rintro en w' ⟨rfl,rfl⟩;exact⟨_,rfl,WExt.refl _,by simp only[VRel];rfl⟩
theorem Mc[MO](s:S)(c:UInt8)(hs0:s.length<=1000000000):Ev TE 133 [.str s,.str [c]] (vi (Lib.lastIndexByte ⟨s.toArray⟩ c.toNat)):=by intro ok w vs hs hl;simp only[VList]at hl;obtain⟨y,ys,rfl,h1,y2,ys2,rfl,h2,rfl⟩:=hl;have:=mJ h1;subst this;have:=mJ h2;subst this;refine Calls.mono (Any.strings_LastIndex_one FQ ⟨s.toArray⟩ ⟨#[c]⟩ rfl (by show s.toArray.size<_;simp;omega) w) ?_;rintro en w' ⟨rfl,rfl⟩;exact⟨_,rfl,WExt.refl _,by simp only[VRel];rfl⟩
theorem TQ:Builder.Extra Tryz.prog Ad where
 sizeBuilder:=by kernel_rfl
 liesBuilder:=by kernel_rfl
 t5:=Tryz.underlying5
 a5:=Tryz.isAgg5
 z5:=Tryz.sizeOf5
 v5:=Tryz.zeroValue5
 infoByte:=by kernel_rfl
 cellsByte:=by kernel_rfl
 sizeByte:=by kernel_rfl
 neB5:=by decide
theorem Af{α:Type}(p:α->Bool)(l:List α):(l.dropWhile p).length<=l.length:=(List.dropWhile_sublist p).length_le
theorem I9(l cs:S):(Lib.trimS l cs).length<=l.length:=by unfold Lib.trimS Lib.trimLeftS Lib.trimRightS;refine Nat.le_trans (Af _ _) ?_;rw[List.length_reverse];exact Nat.le_trans (Af _ _) (by rw[List.length_reverse];exact zrb _)
theorem uJ{w w':World}(x:Below w.heap.size w w'):WExt w w':=⟨x.os,x.tape,x.output,x.size,x.block⟩
theorem Eg[MO](s cut:S)(hc:cut.length<=1000)(ha:∀b∈cut,b.toNat<128):Ev TE 112 [.str s,.str cut] (.str (Lib.trimS s cut)):=by
 intro ok w vs hs hl;simp only[VList]at hl;obtain⟨y,ys,rfl,h1,y2,ys2,rfl,h2,rfl⟩:=hl;have hsl:s.length<=maxLen:=by obtain⟨_,_,_,h⟩:=(show ∃s':ByteArray,y= .string s'/\s'.data.toList=s/\s.length<=maxLen by simpa only[VRel]using h1);exact h
 have:=mJ h1;subst this;have:=mJ h2;subst this;refine Calls.mono (Any.strings_Trim_laid S9 (by kernel_rfl) ⟨s.toArray⟩ ⟨cut.toArray⟩ w (by show s.toArray.size<=_;rw[List.size_toArray];exact hsl) (by show cut.toArray.size<_;simp;omega) (fun j b hj=>ha b (List.mem_of_getElem? hj))) ?_;rintro en w' ⟨rfl,hw⟩;refine⟨_,rfl,uJ hw,?_⟩;simp only[VRel];exact⟨_,rfl,rfl,Nat.le_trans (I9 s cut) hsl⟩
theorem Md[MO](s cs:S)(hs0:s.length<=1000000)(hc:cs.length<=1000)(ha:∀b∈s,b.toNat<128)(hca:∀b∈cs,b.toNat<128):Ev TE 143 [.str s,.str cs] (.bool (Lib.containsAny s cs)):=by intro ok w vs hs hl;simp only[VList]at hl;obtain⟨y,ys,rfl,h1,y2,ys2,rfl,h2,rfl⟩:=hl;have:=mJ h1;subst this;have:=mJ h2;subst this;refine Calls.mono (Any.strings_ContainsAny_laid Ac (by kernel_rfl) ⟨s.toArray⟩ ⟨cs.toArray⟩ w (by show s.toArray.size<_;simp;omega) (by show cs.toArray.size<_;simp;omega) (fun j b hj=>ha b (List.mem_of_getElem? hj)) (fun j b hj=>hca b (List.mem_of_getElem? hj))) ?_;rintro en w' ⟨rfl,hw⟩;exact⟨_,rfl,uJ hw,by simp only[VRel]⟩
theorem Ja[MO](s t:S)(hs0:s.length<=1000000):Ev TE 124 [.str s,.str t] (vi (Lib.index s t)):=by intro ok w vs hs hl;simp only[VList]at hl;obtain⟨y,ys,rfl,h1,y2,ys2,rfl,h2,rfl⟩:=hl;have:=mJ h1;subst this;have:=mJ h2;subst this;obtain⟨_,cs,ty,fz,hg0,m,hg1⟩:=hs.exa 5 _ rfl;have hg1:cs=_:=hg1;subst hg1;refine Calls.mono (Any.strings_Index Rj ⟨s.toArray⟩ ⟨t.toArray⟩ m w (by show s.toArray.size<_;simp;omega) (by show w.cell? ⟨5,0,none⟩=_;have hg2:w.heap[5]? =_:=hg0;simp[World.cell?,hg2])) ?_;rintro en w' ⟨rfl,rfl⟩;exact⟨_,rfl,WExt.refl _,by simp only[VRel]⟩
theorem kC[MO](s:S)(n:Nat)(hs0:s.length<=1000)(hn:n<=1000000):Ev TE 28 [.str s,vi n] (.str (Lib.repeatL s n)):=by intro ok w vs hs hl;simp only[VList]at hl;obtain⟨y,ys,rfl,h1,y2,ys2,rfl,h2,rfl⟩:=hl;have:=mJ h1;subst this;simp only[VRel]at h2;subst h2;have hp:s.length*n<=1000*1000000:=Nat.mul_le_mul hs0 hn;refine Calls.mono (Any.strings_Repeat Go.Proofs.YtokppohljajhjaaGreatDoor.Pm TQ ⟨s.toArray⟩ n w (by omega) (by show s.toArray.size*n<=_;simp;omega)) ?_;rintro en w' ⟨rfl,hw⟩;refine⟨_,rfl,uJ hw,?_⟩;simp only[VRel];exact⟨_,rfl,rfl,by rw[Lib.repeatL_length];show _<=9223372036854775807;rw[Nat.mul_comm];omega⟩
theorem CU(p s:S):p.isPrefixOf s=(decide (p.length<=s.length)&&(s.take p.length==p)):=by
 rw[Bool.eq_iff_iff,List.isPrefixOf_iff_prefix,List.prefix_iff_eq_take,zqf,zqb,beq_iff_eq];constructor
 ·intro h;have:=congrArg List.length h;rw[zrl]at this;exact⟨by omega,h.symm⟩
 ·exact fun h=>h.2.symm
theorem Ag[MO](s p:S):Ev TE 108 [.str s,.str p] (.bool (p.isPrefixOf s)):=by
 rw[CU];refine ah Tryz.func108 rfl (by simp[nts]) (vm ?_);by_cases hle:p.length<=s.length
 ·have e1:decide ((p.length:Int)<=(s.length:Int))=true:=by simpa using hle
  have e2:decide (p.length<=s.length)=true:=by simpa using hle
  simp only[wq.1,seval,Tryz.results108,e1,e2];exact⟨⟨by omega,by omega⟩,az.dat rfl⟩
 ·have e1:decide ((p.length:Int)<=(s.length:Int))=false:=by simpa using hle
  have e2:decide (p.length<=s.length)=false:=by simpa using hle
  simp only[wq.1,seval,Tryz.results108,e1,e2];exact az.dat rfl
theorem Jb[MO](s p:S):Ev TE 68 [.str s,.str p] (.bool (p.isPrefixOf s)):=by refine ah Tryz.func68 rfl (by simp[nts]) (vm ?_);simp only[wq.1,seval,Tryz.results68];refine ag.ev (Ag s p) rfl ?_;simp only[wq.1,seval];exact az.dat rfl
theorem Pn(c d:UInt8):((c.toNat:Int) != (d.toNat:Int))=(c != d):=by
 rw[bne,bne]
 congr 1
 rw[Bool.eq_iff_iff,beq_iff_eq,beq_iff_eq,Int.ofNat_inj];exact⟨fun h=>UInt8.toNat_inj.1 h,fun h=>by rw[h]⟩
theorem Me(c d:UInt8):((c.toNat:Int)==(d.toNat:Int))=(c==d):=by rw[Bool.eq_iff_iff,beq_iff_eq,beq_iff_eq,Int.ofNat_inj];exact⟨fun h=>UInt8.toNat_inj.1 h,fun h=>by rw[h]⟩
theorem yA:∀(l:S)(c:UInt8),decide (Lib.indexByte l c<0)= !l.contains c
 |[],c=>rfl
 |x::l,c=>by
  have ih:=yA l c;rw[List.contains_cons];by_cases h:x=c
  ·subst h;simp[Lib.indexByte]
  ·have h1:(x==c)=false:=by simpa using h
   have h2:(c==x)=false:=by simpa using fun e:c=x=>h e.symm
   rw[h2,Bool.false_or,<-ih,Lib.indexByte,h1];have h3:=Lib.indexByte_ge l c;generalize Lib.indexByte l c=z at *;by_cases hm:z=-1
   ·subst hm;rfl
   ·have:(z==-1)=false:=by simpa using hm
    rw[this];simp;omega
theorem MB(l:S)(c:UInt8):decide (0<=Lib.indexByte l c)=l.contains c:=by have:=yA l c;rw[<-Bool.not_not (b:=l.contains c),<-this,<-decide_not];exact decide_eq_decide.2 (by omega)
theorem MC[MO](c:UInt8):Ev TE 203 [vb c] (.bool (c != 10)):=by refine ah Tryz.func203 rfl (by simp[nts]) (vm ?_);simp only[wq.1,seval,Tryz.results203];refine dN rfl ?_;rw[<-Pn c 10];rfl
def CV:S:=[32,9,13]
def MF:S:=[32,9,13,10,35,92]
theorem MG[MO](c:UInt8):Ev TE 202 [vb c] (.bool (!MF.contains c)):=by have h:=Ef MF c.toNat (by have:=c.toNat_lt;omega);rw[UInt8.ofNat_toNat]at h;refine ah Tryz.func202 rfl (by simp[nts]) (vm ?_);simp only[wq.1,seval,Tryz.results202];refine ag.ev h rfl ?_;simp only[wq.1,seval];refine dN rfl ?_;rw[<-yA]
def Ah(p:UInt8->Bool)(s:S):Nat:=(s.takeWhile p).length
theorem Ai{p:UInt8->Bool}{s:S}{n:Nat}(h:n<=s.length)(ha:∀x∈s.take n,p x=true)(hs:∀hn:n<s.length,p s[n]=false):Ah p s=n:=by
 have e:s=s.take n++s.drop n:=(List.take_append_drop n s).symm;have h1:(s.drop n).takeWhile p=[]:=by
  by_cases hn:n<s.length
  ·rw[List.drop_eq_getElem_cons hn,List.takeWhile_cons,hs hn];rfl
  ·rw[List.drop_eq_nil_of_le (by omega)];rfl
 unfold Ah;rw[e,List.takeWhile_append_of_pos ha,h1,zqp,zrl];omega
theorem Oi[MO](s:S)(a:Nat)(q:FuncId)(p:UInt8->Bool)(ha:a<=s.length)(hs:s.length<=1000000000)(he:ai P q=true)(hq:∀c:UInt8,Ev TE q [vb c] (.bool (p c))) :
 Ev TE 201 [.str s,vi a,.fn (.func q) [] []] (vi (Ah p (s.drop a))):=by
 have hM:=mLx;refine ah Tryz.func201 rfl (by simp[nts]) (vm ?_);simp only[wq.1,Nat.reduceLT,Tryz.results201];refine aK (fun m f h=>∃i,m+i=s.length-a/\f.t 0= .str s/\f.t 1=vi a/\f.t 2= .fn (.func q) [] []/\f.t 7=vi i/\f.d=[]/\∀x∈(s.drop a).take i,p x=true) (s.length-a) ⟨0,by simp,rfl,rfl,rfl,rfl,rfl,by simp⟩ ?_;rintro m f h ⟨i,hm,h0,h1,h2,h7,hd,hall⟩;have hl:(s.drop a).length=s.length-a:=List.length_drop ..;have w1:IntKind.i64.wrap ((a:Int)+i)=((a+i:Nat):Int):=by rw[gG (by omega) (by omega)];omega
 refine vm ?_;by_cases hc:a+i<s.length
 ·have hc':decide (((a+i:Nat):Int)<s.length)=true:=by simp;omega
  have hg:(s.drop a)[i]'(by omega)=s[a+i]:=List.getElem_drop ..;simp only[wq.1,seval,h0,h1,h2,h7,w1,hc',LD hc,he];refine⟨⟨by omega,by omega⟩,ag.ev (hq _) rfl ?_⟩;simp only[wq.1,seval];cases hp:p s[a+i]with
  |true=>simp only[wq.1,seval,h7,aB (show i<maxLen by omega)];exact .inl ⟨m-1,by omega,i+1,by omega,h0,h1,h2,rfl,hd,cO (by omega) hall (by rw[hg];exact hp)⟩
  |false=>simp only[wq.1,seval,h7,hd];rw[Ai (n:=i) (by omega) hall (fun _=>by rw[hg];exact hp)];exact az.dat rfl
 ·have hc':decide (((a+i:Nat):Int)<s.length)=false:=by simp;omega
  simp only[wq.1,seval,h0,h1,h2,h7,w1,hc'];refine⟨.any,?_⟩;simp only[wq.1,seval,h7,hd];rw[Ai (n:=i) (by omega) hall (fun h=>absurd h (by omega))];exact az.dat rfl
theorem Po[MO](s:S)(a:Nat)(ha:a<=s.length)(hs:s.length<=1000000000):Ev TE 199 [.str s,vi a] (vi (Ah (· != 10) (s.drop a))):=by refine ah Tryz.func199 rfl (by simp[nts]) (vm ?_);simp only[wq.1,seval,Tryz.results199];refine ag.ev (Oi s a 203 _ ha hs (by simp[ens]) MC) rfl ?_;simp only[wq.1,seval];exact az.dat rfl
abbrev Tk.v(t:Tk):V:= .agg [vi t.k,.str t.t,vi t.at']
abbrev gX(l:List Tk):V:= .is false 3 (l.map Tk.v)
theorem CW[MO](n:Int):Ev TE 198 [vi n] (.tup [.agg [vi (-1),.str [],vi 0],vi n]):=by refine ah Tryz.func198 rfl (by simp[nts]) (vm ?_);simp only[wq.1,seval,Tryz.results198];exact az.dat rfl
theorem Oj[MO](k:Int)(s:S)(a n:Nat)(hn:n≠0)(ha:a+n<=s.length)(hs:s.length<=1000000000):Ev TE 200 [vi k,.str s,vi a,vi n] (.tup [.agg [vi k,.str ((s.drop a).take n),vi a],vi n]):=by
 have e0:((n:Int)==0)=false:=by simpa using hn
 have w1:IntKind.i64.wrap ((a:Int)+n)=((a+n:Nat):Int):=by rw[gG (by omega) (by omega)];omega
 refine ah Tryz.func200 rfl (by simp[nts]) (vm ?_);simp only[wq.1,seval,Tryz.results200,e0,w1];rw[Nat.add_sub_cancel_left];exact⟨by omega,az.dat rfl⟩
def nH(p:Nat):S->Option Tk×Nat
 |[]=>(none,0)
 |c::r =>
  if c=35 then(none,Ah (· != 10) (c::r))
  else if c=92/\r.head? =some 10 then(none,2)
  else if rf c=true then(none,1)
  else if c=10 then(some ⟨3,[],p⟩,1)
  else if c=92 then(some ⟨0,[92],p⟩,1)
  else(some ⟨0,(c::r).takeWhile kZ,p⟩,Ah kZ (c::r))
theorem Eh(p:UInt8->Bool):∀l:S,l.dropWhile p=l.drop (Ah p l)
 |[]=>rfl
 |x::l=>by
  unfold Ah;cases h:p x with
  |true=>rw[List.dropWhile_cons,if_pos h,List.takeWhile_cons,if_pos h,zrt,List.drop_succ_cons,Eh p l];rfl
  |false=>rw[List.dropWhile_cons,if_neg (by rw[h];decide),List.takeWhile_cons,if_neg (by rw[h];decide)];rfl
theorem Ei{n p:Nat}{c:UInt8}{r:S}:tkB (n+1) p (c::r)=(nH p (c::r)).1.toList++tkB n (p+(nH p (c::r)).2) ((c::r).drop (nH p (c::r)).2):=by
 rw[tkB,nH]
 repeat' split
 all_goals first|rfl|(rw[Eh];rfl)
abbrev tkO:Option Tk->V
 |some t=>t.v
 |none=> .agg [vi (-1),.str [],vi 0]
theorem Jc(c:UInt8):(!MF.contains c)=kZ c:=by unfold MF kZ rf;simp only[List.contains_cons,List.contains_nil,Bool.or_false,Bool.or_assoc,beq_iff_eq]
theorem Pq[MO](s:S)(a:Nat)(c:UInt8)(r:S)(hr:s.drop a=c::r)(hs:s.length<=1000000000):Ev TE 197 [.agg [],.str s,vi a] (.tup [tkO (nH a (c::r)).1,vi (nH a (c::r)).2]):=by
 have hM:=mLx;have ha:a<s.length:=by have:=congrArg List.length hr;rw[List.length_drop,zrt]at this;omega
 have hc:s[a]=c:=by have:=List.drop_eq_getElem_cons ha;rw[hr]at this;injection this with h1 _;exact h1.symm
 have hln:=Po s a (by omega) hs;have hpf:=Jb (s.drop a) [92,10];have hib:=Ef CV c.toNat (by have:=c.toNat_lt;omega);rw[UInt8.ofNat_toNat]at hib;have hrn:=Oi s a 202 kZ (by omega) hs (by simp[ens]) (fun x=>by rw[<-Jc];exact MG x);rw[hr]at hln hpf hrn;have hib2:decide (0<=Lib.indexByte CV c)=rf c:=by rw[MB];unfold CV rf;simp only[List.contains_cons,List.contains_nil,Bool.or_false,Bool.or_assoc]
 have e35:((c.toNat:Int)==35)=(c==35):=Me c 35;have e10:((c.toNat:Int)==10)=(c==10):=Me c 10;have e92:((c.toNat:Int)==92)=(c==92):=Me c 92;have hpf2:([92,10]:S).isPrefixOf (c::r)=decide (c=92/\r.head? =some 10):=by
  cases r with
  |nil=>simp[List.isPrefixOf]
  |cons d r=>simp only[List.isPrefixOf,Bool.and_true,List.head?_cons,Option.some.injEq];rw[Bool.eq_iff_iff,zqf,beq_iff_eq,beq_iff_eq,zqb];exact⟨fun h=>⟨h.1.symm,h.2.symm⟩,fun h=>⟨h.1.symm,h.2.symm⟩⟩
 rw[hpf2]at hpf;have hlen:(c::r).length=s.length-a:=by rw[<-hr,List.length_drop]
 have hpos:Ah kZ (c::r)<=(c::r).length:=(List.takeWhile_sublist _).length_le;obtain⟨R,hR⟩:∃R,R=nH a (c::r):=⟨_,rfl⟩;rw[<-hR];refine ah Tryz.func197 rfl (by simp[nts]) (vm ?_);simp only[wq.1,seval,Tryz.results197,LD ha,hc,e35];refine⟨⟨by omega,by omega⟩,vcB.mk (fun h1=> ?_) (fun h1=> ?_)⟩
 ·have h1':c=35:=by simpa using h1
  have:R=(none,Ah (· != 10) (c::r)):=by rw[hR,nH,if_pos h1']
  subst this;simp only[wq.1,seval];refine ag.ev hln rfl ?_;simp only[wq.1,seval];refine ag.ev (CW _) rfl ?_;simp only[wq.1,seval];exact az.dat rfl
 have h1':c≠35:=by simpa using h1
 rw[nH,if_neg h1']at hR;simp only[wq.1,seval,hr];refine⟨by omega,ag.ev hpf rfl ?_⟩;simp only[wq.1,seval];refine vcB.mk (fun h2=> ?_) (fun h2=> ?_)
 ·have h2':=zqs h2;rw[if_pos h2']at hR;subst hR;simp only[wq.1,Nat.reduceLT];refine ag.ev (CW _) rfl ?_;simp only[wq.1,seval];exact az.dat rfl
 have h2':=of_decide_eq_false h2;rw[if_neg h2']at hR;simp only[wq.1,seval];refine ag.ev hib rfl ?_;simp only[wq.1,seval,hib2];refine vcB.mk (fun h3=> ?_) (fun h3=> ?_)
 ·rw[if_pos h3]at hR;subst hR;simp only[wq.1,Nat.reduceLT];refine ag.ev (CW _) rfl ?_;simp only[wq.1,seval];exact az.dat rfl
 rw[if_neg (by rw[h3];decide)]at hR;simp only[wq.1,seval,e10];refine vcB.mk (fun h4=> ?_) (fun h4=> ?_)
 ·rw[if_pos (by simpa using h4)]at hR;subst hR;simp only[wq.1,seval];exact az.dat rfl
 have h4':c≠10:=by simpa using h4
 rw[if_neg h4']at hR;simp only[wq.1,seval,e92];refine vcB.mk (fun h5=> ?_) (fun h5=> ?_)
 ·have h5':c=92:=by simpa using h5
  rw[if_pos h5']at hR;subst hR;have h:=Oj 0 s a 1 (by decide) (by omega) hs;rw[hr,h5']at h;simp only[wq.1,seval];refine ag.ev h rfl ?_;simp only[wq.1,seval];exact az.dat rfl
 have h5':c≠92:=by simpa using h5
 rw[if_neg h5']at hR;subst hR;have hw:kZ c=true:=by
  unfold kZ;rw[h3];simp[h1',h4',h5']
 have h:=Oj 0 s a (Ah kZ (c::r)) (by unfold Ah;rw[List.takeWhile_cons,if_pos hw];simp) (by omega) hs;rw[hr]at h;have ht:(c::r).take (Ah kZ (c::r))=(c::r).takeWhile kZ:=by
  unfold Ah
  conv=>lhs;rw[<-List.takeWhile_append_dropWhile (p:=kZ) (l:=c::r)]
  rw[List.take_append_of_le_length (by simp)];simp
 rw[ht]at h;simp only[wq.1,seval];refine ag.ev hrn rfl ?_;simp only[wq.1,seval];refine ag.ev h rfl ?_;simp only[wq.1,seval];exact az.dat rfl
abbrev tkF(t:Tk):List V:=[vi t.k,.str t.t,vi t.at']
def tkC(l:List Tk):List V:=l.flatMap tkF
theorem yB(l:List Tk)(t:Tk):tkC (l++[t])=tkC l++tkF t:=by simp[tkC]
theorem CX(l:List Tk):(tkC l).length=l.length*3:=by
 induction l with
 |nil=>rfl
 |cons t l ih=>show(_::_::_::tkC l).length=_;simp only[zrt,ih];omega
theorem kD{p:Nat->Bool}:∀l:List Tk,V.drops p (tkC l)=tkC l
 |[]=>rfl
 |t::l=>by show V.drop p (vi t.k)::V.drop p (.str t.t)::V.drop p (vi t.at')::V.drops p (tkC l)=_;rw[kD l];rfl
theorem Ej:∀l:List Tk,V.dats (tkC l)=true
 |[]=>rfl
 |t::l=>by show(V.dat (vi t.k)&&(V.dat (.str t.t)&&(V.dat (vi t.at')&&V.dats (tkC l))))=true;rw[Ej l];rfl
theorem Ol:∀l:List Tk,dE 3 (l.map Tk.v)=true
 |[]=>rfl
 |t::l=>by show(_&&dE 3 (l.map Tk.v))=true;rw[Ol l];rfl
theorem Rk:∀l:List Tk,(l.map Tk.v).flatMap V.vc=tkC l
 |[]=>rfl
 |t::l=>by show V.vc (Tk.v t)++(l.map Tk.v).flatMap V.vc=_;rw[Rk l];rfl
theorem Aj[MO]{h:H}{id len cap:Nat}{l:List Tk}(hc:h[id]? =some (.cells (tkC l)))(hl:len=l.length):az TE h (.ls id 3 0 len cap) (gX l) :=
 az.ls hc (ak.dat (Ej l)) (Ol l) (Rk l) (by rw[zra];exact hl)
theorem MH [MO] {h : H} {d : List Deferred} : QO { TE with tl := d } h 135 (.agg []) "patchbay/token.read" 197 (.agg []) := by
 intro ok pl w x hs hx;have hx':=hx;simp only[VRel,VList]at hx;obtain⟨cs,rfl,hcs⟩:=hx;have:cs=#[]:=by cases cs;simp at hcs;rw[hcs]
 subst this;exact⟨_,by kernel_rfl,hx'⟩
theorem Jd[MO]{h:H}{K:H->(Nat->Bool)->Prop}(hK:∀X,K (h++[X]) (fun _=>false)):iC TE 111 [.lp 0 0,.lp 1 0,.lp 2 0] h K:=by
 have hgE:∀x:O,(h++[x])[h.length]? =some x:=fun x=>by simp
 have hgS:∀x y:O,(h++[x]).set h.length y=h++[y]:=fun x y=>by simp
 refine jM rfl Tryz.func111 rfl rfl (by simp[nts]) rfl (fun ev w=>rfl) rfl (by decide) ?_;simp only[nts];refine fQ rfl rfl ?_;refine jh (x:= .tmp 6) (t:=191) (q:=⟨.struct [(0,3)],1,8,.agg [vi 0]⟩) rfl (by simp only[wq.1]) (by simp only[wq.1,↓reduceIte]) (by simp only[wq.1,↓reduceIte]) ?_;refine ay rfl rfl ?_;simp only[wq.1,↓reduceIte];refine ay rfl rfl ?_;simp only[wq.1,seval];refine ay rfl rfl ?_;simp only[wq.1,seval];refine ay rfl rfl ?_;simp only[wq.1];refine ay rfl rfl ?_;simp only[wq.1,seval,hgE,hgS];refine ay rfl rfl ?_;simp only[wq.1,seval];refine eP ?_;show awp _ _ _ _ _ _ _;refine vm ?_;simp only[wq.1,seval];exact hK _
theorem MI{p:Nat}{c:UInt8}{r:S}:1<=(nH p (c::r)).2/\(nH p (c::r)).2<=(c::r).length:=by
 have hw:∀q:UInt8->Bool,q c=true->1<=Ah q (c::r)/\Ah q (c::r)<=(c::r).length:=fun q hq=>by unfold Ah;refine⟨by rw[List.takeWhile_cons,if_pos hq];simp,(List.takeWhile_sublist _).length_le⟩
 rw[nH];by_cases h1:c=35
 ·rw[if_pos h1];exact hw _ (by rw[h1];decide)
 rw[if_neg h1];by_cases h2:c=92/\r.head? =some 10
 ·rw[if_pos h2];refine⟨by show 1<=2;omega,?_⟩;cases r with
  |nil=>exact absurd h2.2 (by simp)
  |cons d r=>show 2<=_;simp only[zrt];omega
 rw[if_neg h2];by_cases h3:rf c=true
 ·rw[if_pos h3];exact⟨zrb 1,by show 1<=_;simp only[zrt];omega⟩
 rw[if_neg h3];by_cases h4:c=10
 ·rw[if_pos h4];exact⟨zrb 1,by show 1<=_;simp only[zrt];omega⟩
 rw[if_neg h4];by_cases h5:c=92
 ·rw[if_pos h5];exact⟨zrb 1,by show 1<=_;simp only[zrt];omega⟩
 rw[if_neg h5];refine hw _ ?_;unfold kZ;simp at h3;simp[h1,h3,h4,h5]
theorem FT[MO](s:S)(hs:s.length<=1000000):ag TE 72 [.iface 135 (.agg []),.str s] [] (fun ae h' _=>ae= .ret (.tup [.ls 3 3 0 (tkB s.length 0 s).length (tkB s.length 0 s).length,vi 0,vi 0])/\∃x0 X,h'=[x0,.cells [vi 0],.cells [vi 0],.cells (tkC (tkB s.length 0 s))]++X):=by
 have hM:=mLx;refine jK rfl Tryz.func72 rfl (by simp[nts]) fun ok pl0 w0=> ?_;simp only[nts];refine yf (Q:=fun _ _ _=>False) ?_ (fun _ _ _ h=>by obtain⟨_,_,_,_,_,_,h⟩:=h;exact h.elim);refine vm ?_;simp only[wq.1,seval];refine uu rfl (fn:=Tryz.f72) (q:=111) (caps:=[.lp 0 0,.lp 1 0,.lp 2 0]) (fx:= .tmp 10) rfl rfl (by simp only[wq.1,seval]) rfl rfl rfl rfl (by simp only[wq.1,seval]) (by simp only[wq.1,seval]) (by simp only[wq.1]) rfl fun dd=> ?_;simp only[nts];obtain⟨ee,hee⟩:∃ee:E,ee={TE with tl:=[dd]}:=⟨_,rfl⟩;have hP:ee.P=P:=by rw[hee];rfl
 have hmix:ee.P.follows .mixedOrders=true:=by rw[hP];exact mixed
 have hT:∀ {g:FuncId} {args:List V} {h:H} {R:AEnd->H->(Nat->Bool)->Prop},ag TE g args h R->ag ee g args h R:=fun hc=>by rw[hee];exact hc.tl _
 rw[<-hee];obtain⟨QP,eQP⟩:∃QP:XE->Fr->H->Prop,QP=fun xe f' h'=>f'.d=[]/\V.drops f'.k [V.lp 0 0,V.lp 1 0,V.lp 2 0]=[V.lp 0 0,V.lp 1 0,V.lp 2 0]/\(match xe with
  | .pan v=>jf TE 111 [V.lp 0 0,V.lp 1 0,V.lp 2 0] v h' fun h'' p=>kT TE.P Tryz.f72.results.toList (fun v h k=>AEnd.ret v= .ret (.tup [.ls 3 3 0 (tkB s.length 0 s).length (tkB s.length 0 s).length,vi 0,vi 0])/\∃x0 X,h=[x0,.cells [vi 0],.cells [vi 0],.cells (tkC (tkB s.length 0 s))]++X) (f'.drop p) h''
  | .ret=>iC TE 111 [V.lp 0 0,V.lp 1 0,V.lp 2 0] h' fun h'' p=>kT TE.P Tryz.f72.results.toList (fun v h k=>AEnd.ret v= .ret (.tup [.ls 3 3 0 (tkB s.length 0 s).length (tkB s.length 0 s).length,vi 0,vi 0])/\∃x0 X,h=[x0,.cells [vi 0],.cells [vi 0],.cells (tkC (tkB s.length 0 s))]++X) (f'.drop p) h''
  |_=>False):=⟨_,rfl⟩
 refine bg (Q:=QP) (fun xe f' h' hq=>by rw[eQP]at hq;exact hq) ?_;have hkd:∀ {k:Nat->Bool},(∀j,j<3->k j=false)->V.drops k [V.lp 0 0,V.lp 1 0,V.lp 2 0]=[V.lp 0 0,V.lp 1 0,V.lp 2 0]:=fun {k} h=>by
  have z0:=h 0 (by decide);have z1:=h 1 (by decide);have z2:=h 2 (by decide);simp only[V.drops,V.drop,z0,z1,z2,if_false,zrm]
 obtain⟨hA,ehA⟩:∃hA:List Tk->H,hA=fun L=>[.cells [.ls 3 3 0 L.length L.length],.cells [vi 0],.cells [vi 0],.cells (tkC L)]:=⟨_,rfl⟩;have hret:∀ {f':Fr} {L:List Tk} {X:H},tkB s.length 0 s=L->f'.d=[]->(∀j,j<3->f'.k j=false)->f'.t 4= .lp 0 0->f'.t 5= .lp 1 0->f'.t 6= .lp 2 0->QP .ret f' (hA L++X):=by intro f' L X hp hd hk t4 t5 t6;rw[eQP,ehA];refine⟨hd,hkd hk,?_⟩;refine Jd fun Y=> ?_;rw[hp];simp only[Tryz.results72,nts];simp only[wq.1,↓reduceIte,hd,t4,t5,t6];exact⟨_,_,rfl⟩
 refine au (bD hmix _ _ _ _ ?_);simp only[wq.1,seval,hP];refine gz ?_;refine jd (h':=hA []) (by rw[ehA];exact HLe.set (i:=0) (o':= .cells [.ls 3 3 0 0 0]) rfl (OLe.cells (by simp) (fP.cons dO fP.nil))) ?_;refine aK (fun mm f h'=>∃(a n:Nat)(L:List Tk)(X:H),mm+a=s.length/\a<=s.length/\s.length-a<=n/\L.length<=a/\tkB s.length 0 s=L++tkB n a (s.drop a)/\f.t 0= .iface 135 (.agg [])/\f.t 1= .str s/\f.t 4= .lp 0 0/\f.t 5= .lp 1 0/\f.t 6= .lp 2 0/\f.t 7=vi a/\f.d=[]/\(∀j,j<3->f.k j=false)/\h'=hA L++X) s.length ⟨0,s.length,[],[],rfl,by omega,by omega,by simp,rfl,by simp only[wq.1,seval],by simp only[wq.1,seval],by simp only[wq.1,seval],by simp only[wq.1,seval],by simp only[wq.1,seval],by simp only[wq.1,↓reduceIte];rfl,rfl,fun j hj=>rfl,by rw[zqp]⟩ ?_;rintro mm f h' ⟨a,n,L,X,hmm,hal,hn,hLa,htk,t0,t1,t4,t5,t6,t7,hd,hk,rfl⟩;have hAl:(hA L).length=4:=by rw[ehA];rfl
 refine dP (by rw[hd];simp) ?_;rw[show(hA L).map (O.drop (Abs.dV (hA L).length))=hA L by
  rw[hAl,ehA];simp only[zrd,List.map_nil,O.drop,kD];rfl]
 rw[hAl];have hdk:∀v:V,v.drop (Abs.dV 4)=v->v.drop (Abs.dV 4)=v:=fun _ h=>h;obtain⟨f',hf'⟩:∃f',f'=f.drop (Abs.dV 4):=⟨_,rfl⟩;have u0:f'.t 0= .iface 135 (.agg []):=by rw[hf'];show(f.t 0).drop _=_;rw[t0];rfl
 have u1:f'.t 1= .str s:=by rw[hf'];show(f.t 1).drop _=_;rw[t1];rfl
 have u4:f'.t 4= .lp 0 0:=by rw[hf'];show(f.t 4).drop _=_;rw[t4];rfl
 have u5:f'.t 5= .lp 1 0:=by rw[hf'];show(f.t 5).drop _=_;rw[t5];rfl
 have u6:f'.t 6= .lp 2 0:=by rw[hf'];show(f.t 6).drop _=_;rw[t6];rfl
 have u7:f'.t 7=vi a:=by rw[hf'];show(f.t 7).drop _=_;rw[t7];rfl
 have ud:f'.d=[]:=by rw[hf'];exact hd
 have uk:∀j,j<3->f'.k j=false:=fun j hj=>by rw[hf'];show(f.k j||Abs.dV 4 j)=false;rw[hk j hj];simp[Abs.dV];omega
 rw[<-hf'];clear hf' hd hk t0 t1 t4 t5 t6 t7 X;refine au (bD hmix _ _ _ _ ?_);simp only[wq.1,seval,hP,u1,u7];refine vcB.mk (fun hlt=> ?_) (fun hlt=> ?_)
 ·have hlt:a<s.length:=by have:=zqs hlt;omega
  obtain⟨c,r,hcr⟩:∃c r,s.drop a=c::r:=by
   cases hd:s.drop a with
   |nil=>have:=congrArg List.length hd;simp at this;omega
   |cons c r=>exact⟨c,r,rfl⟩
  have hrd:=Pq s a c r hcr (by omega);obtain⟨n,rfl⟩:∃m,n=m+1:=⟨n-1,by omega⟩;rw[hcr,Ei]at htk;obtain⟨l1,l2⟩:=MI (p:=a) (c:=c) (r:=r);have hcl:(c::r).length=s.length-a:=by rw[<-hcr,List.length_drop]
  obtain⟨o,m,hom⟩:∃o m,nH a (c::r)=(o,m):=⟨_,_,rfl⟩;rw[hom]at hrd htk l1 l2;dsimp only at hrd htk l1 l2;have hdd:(c::r).drop m=s.drop (a+m):=by rw[<-hcr,List.drop_drop]
  rw[hdd]at htk;have w1:IntKind.i64.wrap ((a:Int)+m)=((a+m:Nat):Int):=by rw[gG (by omega) (by omega)];omega
  have dF:∀q,V.drops q (tkC L)=tkC L:=fun q=>kD L;have hfl:=CX L;rw[ehA];refine aH ?_;refine au (bD hmix _ _ _ _ ?_);simp only[wq.1,seval,hP,u0,u1,u7];refine bF rfl (t:=135) (v:= .agg []) (v':= .agg []) (g:=197) (by simp only[wq.1,seval]) (by simp only[wq.1,seval,dh,iy]) (by rw[hee];exact MH) (by simp only[wq.1,hP]) ?_;simp only[wq.1,seval];refine hT (ag.ev hrd rfl ?_);cases o with
  |none=>simp only[wq.1,seval,hP];refine bD hmix _ _ _ _ ?_;simp only[wq.1,seval,hP,u7,w1];exact .inl ⟨mm-m,by omega,a+m,n,L,[O.cells [vi (-1),.str [],vi 0]],by omega,by omega,by omega,by omega,htk,by simp only[wq.1,seval,u0],by simp only[wq.1,seval,u1],by simp only[wq.1,seval,u4],by simp only[wq.1,seval,u5],by simp only[wq.1,seval,u6],by simp only[wq.1,seval],by simp only[wq.1,Int.reduceNeg,ud],fun j hj=>by simp only[wq.1,Int.reduceNeg,uk j hj],rfl⟩
  |some t =>
   simp only[wq.1,seval,hP];have hk0:decide ((0:Int)<=(t.k:Int))=true:=by simp
   refine bD hmix _ _ _ _ ?_;simp only[wq.1,↓reduceIte,Nat.reduceEqDiff,Nat.reduceLT,Nat.reduceLeDiff,Nat.reduceAdd,Nat.reduceBEq,reduceCtorEq,Nat.reduceMul,hP,u4,u7,ud,w1,hk0,dF,hfl];refine⟨⟨rfl,by decide⟩,rfl,⟨rfl,by omega,by omega⟩,.inl ⟨mm-m,by omega,a+m,n,L++[t],[O.cells (tkF t)],by omega,by omega,by omega,by simp;omega,by rw[htk];simp,by simp only[wq.1,↓reduceIte,Nat.reduceEqDiff,Nat.reduceLT,Nat.reduceLeDiff,Nat.reduceAdd,Nat.reduceSub,Int.reduceToNat,Nat.reduceDiv,Int.reduceLT,Int.reduceLE,Int.reduceNeg,Int.reduceBEq,Int.reduceBNe,Int.reduceAdd,Int.reduceSub,Nat.reduceBEq,reduceCtorEq,Nat.reduceMul,aj,Tryz.results72,u0],by simp only[wq.1,↓reduceIte,Nat.reduceEqDiff,Nat.reduceLT,Nat.reduceLeDiff,Nat.reduceAdd,Nat.reduceSub,Int.reduceToNat,Nat.reduceDiv,Int.reduceLT,Int.reduceLE,Int.reduceNeg,Int.reduceBEq,Int.reduceBNe,Int.reduceAdd,Int.reduceSub,Nat.reduceBEq,reduceCtorEq,Nat.reduceMul,aj,Tryz.results72,u1],by simp only[wq.1,↓reduceIte,Nat.reduceEqDiff,Nat.reduceLT,Nat.reduceLeDiff,Nat.reduceAdd,Nat.reduceSub,Int.reduceToNat,Nat.reduceDiv,Int.reduceLT,Int.reduceLE,Int.reduceNeg,Int.reduceBEq,Int.reduceBNe,Int.reduceAdd,Int.reduceSub,Nat.reduceBEq,reduceCtorEq,Nat.reduceMul,aj,Tryz.results72,u4],by simp only[wq.1,↓reduceIte,Nat.reduceEqDiff,Nat.reduceLT,Nat.reduceLeDiff,Nat.reduceAdd,Nat.reduceSub,Int.reduceToNat,Nat.reduceDiv,Int.reduceLT,Int.reduceLE,Int.reduceNeg,Int.reduceBEq,Int.reduceBNe,Int.reduceAdd,Int.reduceSub,Nat.reduceBEq,reduceCtorEq,Nat.reduceMul,aj,Tryz.results72,u5],by simp only[wq.1,↓reduceIte,Nat.reduceEqDiff,Nat.reduceLT,Nat.reduceLeDiff,Nat.reduceAdd,Nat.reduceSub,Int.reduceToNat,Nat.reduceDiv,Int.reduceLT,Int.reduceLE,Int.reduceNeg,Int.reduceBEq,Int.reduceBNe,Int.reduceAdd,Int.reduceSub,Nat.reduceBEq,reduceCtorEq,Nat.reduceMul,aj,Tryz.results72,u6],by simp only[wq.1,↓reduceIte,Nat.reduceEqDiff,Nat.reduceLT,Nat.reduceLeDiff,Nat.reduceAdd,Nat.reduceSub,Int.reduceToNat,Nat.reduceDiv,Int.reduceLT,Int.reduceLE,Int.reduceNeg,Int.reduceBEq,Int.reduceBNe,Int.reduceAdd,Int.reduceSub,Nat.reduceBEq,reduceCtorEq,Nat.reduceMul,aj,Tryz.results72],by simp only[wq.1,↓reduceIte,Nat.reduceEqDiff,Nat.reduceLT,Nat.reduceLeDiff,Nat.reduceAdd,Nat.reduceSub,Int.reduceToNat,Nat.reduceDiv,Int.reduceLT,Int.reduceLE,Int.reduceNeg,Int.reduceBEq,Int.reduceBNe,Int.reduceAdd,Int.reduceSub,Nat.reduceBEq,reduceCtorEq,Nat.reduceMul,aj,Tryz.results72,ud],fun j hj=> ?_,?_⟩⟩
   ·simp only[wq.1,uk j hj];simp;omega
   ·rw[yB,zqa,zrk];rfl
 ·have hea:a=s.length:=by have:=of_decide_eq_false hlt;omega
  subst hea;rw[List.drop_length]at htk;have he:tkB s.length 0 s=L:=by
   rw[htk];cases n<;>simp[tkB]
  subst ehA;refine bD hmix _ _ _ _ ?_;simp only[wq.1,seval,hP,u4,u5,u6];exact hret (X:=[]) he (by simp only[wq.1,ud]) (fun j hj=>by simp only[wq.1,uk j hj]) (by simp only[wq.1,seval,u4]) (by simp only[wq.1,seval,u5]) (by simp only[wq.1,seval,u6])
theorem CY:∀(l:List Tk)(b:Bool),(lF b l).length<=l.length
 |[],b=>by rw[lF];exact zrb _
 |t::r,b=>by
  have h1:=CY r true;have h2:=CY r false;rw[lF];split
  ·split
   ·simp only[zrt];omega
   ·simp only[zrt];omega
  ·simp only[zrt];omega
theorem CZ:∀(n p:Nat)(s:S),(tkB n p s).length<=n
 |0,_,_=>by simp[tkB]
 |n+1,p,[]=>by simp[tkB]
 |n+1,p,c::r=>by rw[Ei,zqa];have:=CZ n (p+(nH p (c::r)).2) ((c::r).drop (nH p (c::r)).2);cases(nH p (c::r)).1<;>simp only[Option.toList,List.length_nil,zrk]<;>omega
theorem Pv[MO](s:S)(hs:s.length<=1000000):Ev TE 31 [.str s] (gX (iO s)):=by
 have hM:=mLx;have hl1:=CZ s.length 0 s;refine ah Tryz.func31 rfl (by simp[nts]) ?_;have hall:=FT s hs;obtain⟨L0,hL0⟩:∃L0,L0=tkB s.length 0 s:=⟨_,rfl⟩;obtain⟨L,hL⟩:∃L,L=L0++[⟨3,[],s.length⟩]:=⟨_,rfl⟩;have hbl:iO s=lF true L:=by rw[hL,hL0];rfl
 rw[<-hL0]at hall hl1;rw[hbl];have hLl:L.length<=1000001:=by rw[hL];simp;omega
 have hL0l:L0.length+1=L.length:=by rw[hL];simp
 have dF:∀q,V.drops q (tkC L0)=tkC L0:=fun q=>kD L0;have hfl:=CX L0;refine vn ?_;simp only[wq.1,Nat.reduceLT,Tryz.results31];refine vn ?_;simp only[wq.1,seval];refine⟨by simp,hall.mono ?_⟩;rintro ae h' p ⟨rfl,x0,X,rfl⟩;simp only[wq.1,↓reduceIte,Nat.reduceEqDiff,Nat.reduceLT,Nat.reduceAdd,aX];refine vn ?_;simp only[wq.1,↓reduceIte,Nat.reduceEqDiff,Nat.reduceLT,Nat.reduceLeDiff,Nat.reduceAdd,reduceCtorEq,Nat.reduceMul,dF,hfl];refine⟨⟨rfl,by decide⟩,rfl,⟨rfl,by omega,by omega⟩,?_⟩;refine Ff 3 (gX L) (by simp only[wq.1]) (by
  simp only[wq.1,↓reduceIte];refine Aj (l:=L) ?_ (by rw[hL0l]);rw[hL,yB];rfl) ?_
 refine Iu (fun f'=>f'.t 3=gX L/\f'.d=[]) [] (fun hk=>hk _ ⟨by simp only[wq.1,↓reduceIte],rfl⟩) ?_;rintro f ⟨t3,hd⟩;refine vn ?_;simp only[wq.1,Nat.reduceLT];refine jW 6 3 (by simp only[wq.1,↓reduceIte]) ?_;refine vn ?_;simp only[wq.1,seval,t3,hd];refine aK (fun mm f h=>∃(i:Nat)(U:List Tk)(X:H),mm+i=L.length/\U.length<=i/\i<=L.length/\lF true L=U++lF (decide (i=0)||decide ((L.getD (i-1) ⟨3,[],0⟩).k=3)) (L.drop i)/\f.t 3=gX L/\f.t 6= .ls 0 3 0 U.length U.length/\f.t 23=gX L/\f.t 24=vi L.length/\f.t 25=vi i/\f.d=[]/\h=[.cells (tkC U)]++X) L.length ⟨0,[],[],by omega,zrb _,by omega,rfl,by simp only[wq.1,seval,t3],by simp only[wq.1,seval],by simp only[wq.1,seval],by simp only[wq.1,seval],by simp only[wq.1,↓reduceIte];rfl,by simp only[wq.1],rfl⟩ ?_;clear t3 hd;rintro mm f h ⟨i,U,X,hmm,hOi,hiL,hfl2,t3,t6,t23,t24,t25,hd,rfl⟩;refine dP (h0:=[.cells (tkC U)]) (by rw[hd];simp) ?_;rw[show([.cells (tkC U)]:H).map (O.drop (Abs.dV ([.cells (tkC U)]:H).length))=[.cells (tkC U)] by
  simp only[zrd,List.map_nil,O.drop,kD]]
 obtain⟨f',hf'⟩:∃f',f'=f.drop (Abs.dV ([.cells (tkC U)]:H).length):=⟨_,rfl⟩;have u3:f'.t 3=gX L:=by rw[hf'];show(f.t 3).drop _=_;rw[t3];rfl
 have u6:f'.t 6= .ls 0 3 0 U.length U.length:=by rw[hf'];show(f.t 6).drop _=_;rw[t6];rfl
 have u23:f'.t 23=gX L:=by rw[hf'];show(f.t 23).drop _=_;rw[t23];rfl
 have u24:f'.t 24=vi L.length:=by rw[hf'];show(f.t 24).drop _=_;rw[t24];rfl
 have u25:f'.t 25=vi i:=by rw[hf'];show(f.t 25).drop _=_;rw[t25];rfl
 have ud:f'.d=[]:=by rw[hf'];exact hd
 rw[<-hf'];clear hf' hd t3 t6 t23 t24 t25 X;have dU:∀q,V.drops q (tkC U)=tkC U:=fun q=>kD U;have hul:=CX U;have hw:=aB (show i<maxLen by omega);refine vn ?_;simp only[wq.1,Nat.reduceLT,u24,u25];refine vn ?_;simp only[wq.1,↓reduceIte];refine vcB.mk (fun hlt=> ?_) (fun hlt=> ?_)
 ·have hlt:i<L.length:=by have:=zqs hlt;omega
  obtain⟨t,ht⟩:∃t,t=L[i]:=⟨_,rfl⟩;have hgt:(L.map Tk.v).getD i .any=Tk.v t:=by rw[ht];exact dG hlt _
  have hgd:L.getD i ⟨3,[],0⟩=t:=by rw[ht,zqg,zqk hlt];rfl
  rw[List.drop_eq_getElem_cons hlt,<-ht]at hfl2;have hnx:(decide (i+1=0)||decide ((L.getD (i+1-1) ⟨3,[],0⟩).k=3))=decide (t.k=3):=by
   rw[Nat.add_sub_cancel,hgd];simp
  have hL':L.length<=1000001:=hLl;have step:∀ {V1:List Tk},lF true L=V1++lF (decide (t.k=3)) (L.drop (i+1))->V1.length<=i+1->∃i' U',mm-1+i'=L.length/\U'.length<=i'/\i'<=L.length/\lF true L=U'++lF (decide (i'=0)||decide ((L.getD (i'-1) ⟨3,[],0⟩).k=3)) (L.drop i')/\U'=V1/\i'=i+1:=fun {V1} h1 h2=>⟨i+1,V1,by omega,h2,by omega,by rw[hnx];exact h1,rfl,rfl⟩;have hgz:∃z:Tk,(L.map Tk.v).getD (IntKind.i64.wrap ((i:Int)-1)).toNat .any=Tk.v z:=by
   by_cases hi0:i=0
   ·subst hi0;exact⟨_,dG (by show 0<_;omega) _⟩
   ·have hwi:IntKind.i64.wrap ((i:Int)-1)=((i-1:Nat):Int):=by rw[gG (by omega) (by omega)];omega
    rw[hwi,zsg];exact⟨_,dG (by omega) _⟩
  obtain⟨z,hgz⟩:=hgz;by_cases hk3:t.k=3
  ·have e3:((t.k:Int) != 3)=false:=by rw[hk3];rfl
   by_cases hi0:i=0
   ·have h0i:decide ((0:Int)<(i:Int))=false:=by simp;omega
    rw[decide_eq_true hi0,Bool.true_or,lF,if_pos hk3,if_pos rfl]at hfl2;have hfl3:lF true L=U++lF (decide (t.k=3)) (L.drop (i+1)):=by rw[decide_eq_true hk3];exact hfl2
    obtain⟨i',U',q1,q2,q3,q4,rfl,rfl⟩:=step hfl3 (by omega);refine vn ?_;simp only[wq.1,seval,u3,u23,u25,hgt,hgz,e3,h0i];refine⟨⟨by omega,by omega⟩,?_⟩;refine vm ?_;simp only[wq.1,seval,u25,hw];exact .inl ⟨mm-1,by omega,i+1,U',_,q1,q2,q3,q4,by simp only[wq.1,seval,u3],by simp only[wq.1,seval,u6],by simp only[wq.1,seval,u23],by simp only[wq.1,seval,u24],by simp only[wq.1,↓reduceIte],by simp only[wq.1,ud],rfl⟩
   ·have h0i:decide ((0:Int)<(i:Int))=true:=by simp;omega
    have hwi:IntKind.i64.wrap ((i:Int)-1)=((i-1:Nat):Int):=by rw[gG (by omega) (by omega)];omega
    have hj:i-1<L.length:=by omega
    obtain⟨v,hv⟩:∃v,v=L[i-1]:=⟨_,rfl⟩;have hgj:(L.map Tk.v).getD (i-1) .any=Tk.v v:=by rw[hv];exact dG hj _
    have hgk:L.getD (i-1) ⟨3,[],0⟩=v:=by rw[hv,zqg,zqk hj];rfl
    rw[decide_eq_false hi0,Bool.false_or,hgk,lF,if_pos hk3]at hfl2;by_cases hv3:v.k=3
    ·have v3:((v.k:Int) != 3)=false:=by rw[hv3];rfl
     rw[if_pos (decide_eq_true hv3)]at hfl2;have hfl3:lF true L=U++lF (decide (t.k=3)) (L.drop (i+1)):=by rw[decide_eq_true hk3];exact hfl2
     obtain⟨i',U',q1,q2,q3,q4,rfl,rfl⟩:=step hfl3 (by omega);refine vn ?_;simp only[wq.1,seval,u3,u23,u25,hgt,e3,h0i,hwi,hgj,v3];refine⟨⟨by omega,by omega⟩,⟨by omega,by omega⟩,?_⟩;refine vm ?_;simp only[wq.1,seval,u25,hw];exact .inl ⟨mm-1,by omega,i+1,U',_,q1,q2,q3,q4,by simp only[wq.1,seval,u3],by simp only[wq.1,seval,u6],by simp only[wq.1,seval,u23],by simp only[wq.1,seval,u24],by simp only[wq.1,↓reduceIte],by simp only[wq.1,ud],rfl⟩
    ·have v3:((v.k:Int) != 3)=true:=by simp;omega
     rw[if_neg (by simp[hv3])]at hfl2;have hfl3:lF true L=(U++[t])++lF (decide (t.k=3)) (L.drop (i+1)):=by rw[decide_eq_true hk3,hfl2];simp
     obtain⟨i',U',q1,q2,q3,q4,hU',rfl⟩:=step hfl3 (by simp;omega);refine vn ?_;simp only[wq.1,↓reduceIte,Nat.reduceEqDiff,Nat.reduceLT,Nat.reduceLeDiff,Nat.reduceAdd,reduceCtorEq,Nat.reduceMul,u3,u6,u23,u25,ud,hgt,e3,h0i,hwi,hgj,v3,dU];refine⟨⟨by omega,by omega⟩,⟨by omega,by omega⟩,⟨rfl,by decide⟩,rfl,⟨hul,rfl,by omega,by omega⟩,?_⟩;refine vm ?_;simp only[wq.1,seval,u25,hw];refine .inl ⟨mm-1,by omega,i+1,U',[O.cells (tkF t)],q1,q2,q3,q4,by simp only[wq.1,seval,u3],by simp only[wq.1,seval,hU'],by simp only[wq.1,seval,u23],by simp only[wq.1,seval,u24],by simp only[wq.1,↓reduceIte],by simp only[wq.1,ud],?_⟩;rw[hU',yB];rfl
  ·have e3:((t.k:Int) != 3)=true:=by simp;omega
   rw[lF,if_neg hk3]at hfl2;have hfl3:lF true L=(U++[t])++lF (decide (t.k=3)) (L.drop (i+1)):=by rw[decide_eq_false hk3,hfl2];simp
   obtain⟨i',U',q1,q2,q3,q4,hU',rfl⟩:=step hfl3 (by simp;omega);refine vn ?_;simp only[wq.1,↓reduceIte,Nat.reduceEqDiff,Nat.reduceLT,Nat.reduceLeDiff,Nat.reduceAdd,reduceCtorEq,Nat.reduceMul,u3,u6,u23,u25,ud,hgt,hgz,e3,dU];refine⟨⟨by omega,by omega⟩,⟨rfl,by decide⟩,rfl,⟨hul,rfl,by omega,by omega⟩,?_⟩;refine vm ?_;simp only[wq.1,seval,u25,hw];refine .inl ⟨mm-1,by omega,i+1,U',[O.cells (tkF t)],q1,q2,q3,q4,by simp only[wq.1,seval,u3],by simp only[wq.1,seval,hU'],by simp only[wq.1,seval,u23],by simp only[wq.1,seval,u24],by simp only[wq.1,↓reduceIte],by simp only[wq.1,ud],?_⟩;rw[hU',yB];rfl
 ·have hea:i=L.length:=by have:=of_decide_eq_false hlt;omega
  subst hea;rw[List.drop_length,lF,zqp]at hfl2;rw[hfl2];refine vm ?_;simp only[wq.1,seval,u6,ud];exact Aj rfl rfl
abbrev Ga.v(g:Ga):V:= .agg [.str g.name,vi g.op,aW g.ins,aW g.rows,.bool g.off]
abbrev La.v(q:La):V:= .agg [.str q.name,.str q.next,vi q.init]
abbrev jD(l:List Ga):V:= .is false 5 (l.map Ga.v)
abbrev vM(l:List La):V:= .is false 3 (l.map La.v)
abbrev Ci.v(c:Ci):V:= .agg [aW c.ins,aW c.outs,vM c.lat,jD c.gates]
def gaC(l:List Ga):List V:=l.flatMap fun g=>[.str g.name,vi g.op,aW g.ins,aW g.rows,.bool g.off]
def laC(l:List La):List V:=l.flatMap fun q=>[.str q.name,.str q.next,vi q.init]
theorem Em:∀l:List La,V.dats (laC l)=true
 |[]=>rfl
 |t::l=>by show(V.dat (.str t.name)&&(V.dat (.str t.next)&&(V.dat (vi t.init)&&V.dats (laC l))))=true;rw[Em l];rfl
theorem Om:∀l:List La,dE 3 (l.map La.v)=true
 |[]=>rfl
 |t::l=>by show(_&&dE 3 (l.map La.v))=true;rw[Om l];rfl
theorem Rl:∀l:List La,(l.map La.v).flatMap V.vc=laC l
 |[]=>rfl
 |t::l=>by show V.vc (La.v t)++(l.map La.v).flatMap V.vc=_;rw[Rl l];rfl
theorem Ak[MO]{h:H}{id len cap:Nat}{l:List La}(hc:h[id]? =some (.cells (laC l)))(hl:len=l.length):az TE h (.ls id 3 0 len cap) (vM l) :=
 az.ls hc (ak.dat (Em l)) (Om l) (Rl l) (by rw[zra];exact hl)
theorem En:∀l:List Ga,V.dats (gaC l)=true
 |[]=>rfl
 |t::l=>by show(V.dat (.str t.name)&&(V.dat (vi t.op)&&(V.dat (aW t.ins)&&(V.dat (aW t.rows)&&(V.dat (.bool t.off)&&V.dats (gaC l))))))=true;rw[En l];simp only[V.dat,aJ,zre]
theorem yC:∀l:List Ga,V.dats (l.map Ga.v)=true
 |[]=>rfl
 |t::l=>by show(V.dat (Ga.v t)&&V.dats (l.map Ga.v))=true;rw[yC l];simp only[V.dat,V.dats,aJ,zre]
theorem Je:∀l:List La,V.dats (l.map La.v)=true
 |[]=>rfl
 |t::l=>by show(V.dat (La.v t)&&V.dats (l.map La.v))=true;rw[Je l];rfl
theorem yD:∀l:List Tk,V.dats (l.map Tk.v)=true
 |[]=>rfl
 |t::l=>by show(V.dat (Tk.v t)&&V.dats (l.map Tk.v))=true;rw[yD l];rfl
theorem rq(c:Ci):V.dat c.v=true:=by simp only[Ci.v,V.dat,V.dats,aJ,Je,yC,zre]
theorem Oo:∀l:List Ga,dE 5 (l.map Ga.v)=true
 |[]=>rfl
 |t::l=>by show(_&&dE 5 (l.map Ga.v))=true;rw[Oo l];rfl
theorem Rn:∀l:List Ga,(l.map Ga.v).flatMap V.vc=gaC l
 |[]=>rfl
 |t::l=>by show V.vc (Ga.v t)++(l.map Ga.v).flatMap V.vc=_;rw[Rn l];rfl
theorem Am[MO]{h:H}{id len cap:Nat}{l:List Ga}(hc:h[id]? =some (.cells (gaC l)))(hl:len=l.length):az TE h (.ls id 5 0 len cap) (jD l) :=
 az.ls hc (ak.dat (En l)) (Oo l) (Rn l) (by rw[zra];exact hl)
theorem MJ{c:List Ga}{r:List V}(hb:V.bnds (jD c::r)):c.length<=maxLen:=by simp only[V.bnds,V.bnd,zra]at hb;exact hb.1.1
theorem MK{c:List Tk}{r:List V}(hb:V.bnds (gX c::r)):c.length<=maxLen:=by simp only[V.bnds,V.bnd,zra]at hb;exact hb.1.1
theorem Jf{c:List S}{r:List V}(hb:V.bnds (aW c::r)):c.length<=maxLen:=by simp only[V.bnds,V.bnd,zra]at hb;exact hb.1.1
theorem wF{c:List Ga}{i:Nat}(h:i<c.length)(d:V):(c.map Ga.v).getD i d=Ga.v c[i]:=dG h _
theorem ML{c:List Tk}{i:Nat}(h:i<c.length)(d:V):(c.map Tk.v).getD i d=Tk.v c[i]:=dG h _
theorem Jg{c:List La}{i:Nat}(h:i<c.length)(d:V):(c.map La.v).getD i d=La.v c[i]:=dG h _
theorem uK:∀l:S,dS (l.map vb)=some l
 |[]=>rfl
 |a::l=>by
  simp only[zrd,dS,uK l,zrw]
  congr 2
  exact UInt8.ofNat_toNat
theorem qF{h:H}{l:S}{k cap:Nat}(hc:h[k]? =some (.cells (l.map vb))):(eY P h 58 9 (.ls k 1 0 l.length cap)).1=True/\(eY P h 58 9 (.ls k 1 0 l.length cap)).2= .str l:=by
 have h1:dC h k=l.map vb:=by simp only[dC,hc]
 have h2:dS (((dC h k).drop 0).take l.length)=some l:=by rw[h1,List.drop_zero,zqh (by simp),uK]
 have h3:0+l.length<=(dC h k).length:=by rw[h1];simp
 unfold eY;simp only[tis,h2];exact⟨eq_true ⟨trivial,trivial,h3⟩,trivial⟩
theorem Px[MO](c:List S)(q:FuncId)(caps:List V)(p:S->Bool)(he:ai P q=true)(hd:V.dats caps=true)(hq:∀x∈c,Ev TE q (.str x::caps) (.bool (p x))):Ev TE 85 [aW c,.fn (.func q) [] caps] (vi (idx c p)):=by
 refine Ev.bnd fun hb=> ?_;have hlen:=Jf hb;refine ah Tryz.func85 rfl (by simp[nts]) (vm ?_);simp only[wq.1,seval,Tryz.results85];refine aK (fun m f h=>∃i,m+i=c.length/\f.t 0=aW c/\f.t 1= .fn (.func q) [] caps/\f.t 7= .int .i64 (c.length:Int)/\f.t 8= .int .i64 (i:Int)/\f.d=[]/\∀x∈c.take i,p x=false) c.length ⟨0,by simp,rfl,rfl,by simp only[wq.1,seval],rfl,rfl,by simp⟩ ?_;rintro m f h ⟨i,hm,h0,h1,h7,h8,hdd,hall⟩;refine vm ?_;simp only[wq.1,seval,h7,h8];refine vcB.mk (fun hc=> ?_) (fun hc=> ?_)
 ·simp only[zqb,zqi]at hc;simp only[wq.1,seval,h0,h1,h8,Ko hc,he];refine⟨⟨by omega,by omega⟩,ag.ev (hq _ (zqu _)) (by simp[V.dats,V.dat,hd,aJ]) ?_⟩;simp only[wq.1,seval];refine vcB.mk (fun hc'=> ?_) (fun hc'=> ?_)
  ·simp only[wq.1,seval,hdd];rw[yt hc hall hc'];exact az.dat rfl
  ·simp only[wq.1,seval,h8,aB (show i<maxLen by omega)];exact .inl ⟨m-1,by omega,i+1,by omega,h0,h1,h7,rfl,hdd,cO hc hall hc'⟩
 ·simp only[zqd,zqi]at hc;simp only[wq.1,seval,hdd];rw[zqh (by omega)]at hall;rw[sG hall];exact az.dat rfl
theorem Jh[MO](c:List S)(q:FuncId)(caps:List V)(p:S->Bool)(he:ai P q=true)(hd:V.dats caps=true)(hq:∀x∈c,Ev TE q (.str x::caps) (.bool (p x))):Ev TE 44 [aW c,.fn (.func q) [] caps] (.bool (c.any p)):=by refine ah Tryz.func44 rfl (by simp[nts]) (vm ?_);simp only[wq.1,seval,Tryz.results44];refine ag.ev (Px c q caps p he hd hq) (by simp[V.dats,V.dat,hd,aJ]) ?_;simp only[wq.1,seval];exact dN rfl (by rw[IP])
theorem Py[MO](c:List Ga)(q:FuncId)(caps:List V)(p:Ga->Bool)(he:ai P q=true)(hd:V.dats caps=true)(hq:∀x∈c,Ev TE q (Ga.v x::caps) (.bool (p x))):Ev TE 96 [jD c,.fn (.func q) [] caps] (vi (idx c p)):=by
 refine Ev.bnd fun hb=> ?_;have hlen:=MJ hb;refine ah Tryz.func96 rfl (by simp[nts]) (vm ?_);simp only[wq.1,seval,Tryz.results96];refine aK (fun m f h=>∃i,m+i=c.length/\f.t 0=jD c/\f.t 1= .fn (.func q) [] caps/\f.t 7= .int .i64 (c.length:Int)/\f.t 8= .int .i64 (i:Int)/\f.d=[]/\∀x∈c.take i,p x=false) c.length ⟨0,by simp,rfl,rfl,by simp only[wq.1,seval],rfl,rfl,by simp⟩ ?_;rintro m f h ⟨i,hm,h0,h1,h7,h8,hdd,hall⟩;refine vm ?_;simp only[wq.1,seval,h7,h8];refine vcB.mk (fun hc=> ?_) (fun hc=> ?_)
 ·simp only[zqb,zqi]at hc;simp only[wq.1,seval,h0,h1,h8,wF hc,he];refine⟨⟨by omega,by omega⟩,ag.ev (hq _ (zqu _)) (by simp[V.dats,V.dat,hd,aJ]) ?_⟩;simp only[wq.1,seval];refine vcB.mk (fun hc'=> ?_) (fun hc'=> ?_)
  ·simp only[wq.1,seval,hdd];rw[yt hc hall hc'];exact az.dat rfl
  ·simp only[wq.1,seval,h8,aB (show i<maxLen by omega)];exact .inl ⟨m-1,by omega,i+1,by omega,h0,h1,h7,rfl,hdd,cO hc hall hc'⟩
 ·simp only[zqd,zqi]at hc;simp only[wq.1,seval,hdd];rw[zqh (by omega)]at hall;rw[sG hall];exact az.dat rfl
theorem Pz[MO](c:List Ga)(q:FuncId)(caps:List V)(p:Ga->Bool)(he:ai P q=true)(hd:V.dats caps=true)(hq:∀x∈c,Ev TE q (Ga.v x::caps) (.bool (p x))):Ev TE 56 [jD c,.fn (.func q) [] caps] (.bool (c.any p)):=by refine ah Tryz.func56 rfl (by simp[nts]) (vm ?_);simp only[wq.1,seval,Tryz.results56];refine ag.ev (Py c q caps p he hd hq) (by simp[V.dats,V.dat,hd,yC]) ?_;simp only[wq.1,seval];exact dN rfl (by rw[IP])
theorem PE[MO](c:List Tk)(q:FuncId)(caps:List V)(p:Tk->Bool)(he:ai P q=true)(hd:V.dats caps=true)(hq:∀x∈c,Ev TE q (Tk.v x::caps) (.bool (p x))):Ev TE 75 [gX c,.fn (.func q) [] caps] (vi (idx c p)):=by
 refine Ev.bnd fun hb=> ?_;have hlen:=MK hb;refine ah Tryz.func75 rfl (by simp[nts]) (vm ?_);simp only[wq.1,seval,Tryz.results75];refine aK (fun m f h=>∃i,m+i=c.length/\f.t 0=gX c/\f.t 1= .fn (.func q) [] caps/\f.t 7= .int .i64 (c.length:Int)/\f.t 8= .int .i64 (i:Int)/\f.d=[]/\∀x∈c.take i,p x=false) c.length ⟨0,by simp,rfl,rfl,by simp only[wq.1,seval],rfl,rfl,by simp⟩ ?_;rintro m f h ⟨i,hm,h0,h1,h7,h8,hdd,hall⟩;refine vm ?_;simp only[wq.1,seval,h7,h8];refine vcB.mk (fun hc=> ?_) (fun hc=> ?_)
 ·simp only[zqb,zqi]at hc;simp only[wq.1,seval,h0,h1,h8,ML hc,he];refine⟨⟨by omega,by omega⟩,ag.ev (hq _ (zqu _)) (by simp[V.dats,V.dat,hd,aJ]) ?_⟩;simp only[wq.1,seval];refine vcB.mk (fun hc'=> ?_) (fun hc'=> ?_)
  ·simp only[wq.1,seval,hdd];rw[yt hc hall hc'];exact az.dat rfl
  ·simp only[wq.1,seval,h8,aB (show i<maxLen by omega)];exact .inl ⟨m-1,by omega,i+1,by omega,h0,h1,h7,rfl,hdd,cO hc hall hc'⟩
 ·simp only[zqd,zqi]at hc;simp only[wq.1,seval,hdd];rw[zqh (by omega)]at hall;rw[sG hall];exact az.dat rfl
end Go.Proofs.YtokppohljajhjaaGreatDoor
