/- Lemmas for this claim, part F02: each holds under what it names. -/
import Derived.Test.YthaijohbpdabfaaGreatDoorNF01
import Derived.Shelf.Strings.Count
import Derived.Shelf.Strings.LastIndex
import Derived.Shelf.Small.Strs
import Derived.Shelf.Strings.Repeat
import Derived.Shelf.Strings.SlTrimAscii
import Derived.Shelf.Strings.IndexAnyAll
import Derived.Shelf.Strings.Search3
import Derived.Shelf.Strings.OnBuilder
import Derived.Shelf.Strconv.Itoa3
import Derived.Shelf.LaysM
import Derived.Shelf.LaysC
import Derived.Test.YthaijohbpdabfaaGreatDoorNA9
import Derived.Test.YthaijohbpdabfaaGreatDoorNA8
set_option linter.all false
set_option maxRecDepth 20000
set_option maxHeartbeats 1000000
namespace Go.Proofs.YthaijohbpdabfaaGreatDoor
open Go Go.Proofs Go.Abs Go.RowKit Go.Shelf Go.Lib
def Eu:Go.Shelf.Ren:=⟨fun|137=>251|217=>275|266=>284|n=>n,fun|9=>9|5=>5|3=>3|n=>n,fun|n=>n⟩
theorem Kv[MO]:Go.Proofs.Lays.n137 Tryz.prog Eu where
 mixed:=by kernel_rfl
 f137:=Tryz.func251.trans (congrArg some (by kernel_rfl))
 f217:=Tryz.func275.trans (congrArg some (by kernel_rfl))
 f266:=Tryz.func284.trans (congrArg some (by kernel_rfl))
 t3:=Tryz.underlying3
 a3:=Tryz.isAgg3
 z3:=Tryz.sizeOf3
 v3:=Tryz.zeroValue3
 t5:=Tryz.underlying5
 a5:=Tryz.isAgg5
 z5:=Tryz.sizeOf5
 v5:=Tryz.zeroValue5
 t9:=Tryz.underlying9
 a9:=Tryz.isAgg9
 z9:=Tryz.sizeOf9
 v9:=Tryz.zeroValue9
def Q3:Go.Shelf.Ren:=⟨fun|138=>181|195=>243|218=>244|143=>245|219=>271|217=>275|225=>280|224=>281|267=>282|266=>284|314=>290|n=>n,fun|9=>9|3=>3|4=>4|5=>5|0=>0|46=>156|146=>311|51=>310|n=>n,fun|1=>7|n=>n⟩
theorem W9[MO]:Go.Proofs.Lays.n138 Tryz.prog Q3 where
 mixed:=by kernel_rfl
 f138:=Tryz.func181.trans (congrArg some (by kernel_rfl))
 f143:=Tryz.func245.trans (congrArg some (by kernel_rfl))
 f195:=Tryz.func243.trans (congrArg some (by kernel_rfl))
 f217:=Tryz.func275.trans (congrArg some (by kernel_rfl))
 f218:=Tryz.func244.trans (congrArg some (by kernel_rfl))
 f219:=Tryz.func271.trans (congrArg some (by kernel_rfl))
 f224:=Tryz.func281.trans (congrArg some (by kernel_rfl))
 f225:=Tryz.func280.trans (congrArg some (by kernel_rfl))
 f266:=Tryz.func284.trans (congrArg some (by kernel_rfl))
 f267:=Tryz.func282.trans (congrArg some (by kernel_rfl))
 f314:=Tryz.func290.trans (congrArg some (by kernel_rfl))
 t0:=Tryz.underlying0
 a0:=Tryz.isAgg0
 z0:=Tryz.sizeOf0
 v0:=Tryz.zeroValue0
 t3:=Tryz.underlying3
 a3:=Tryz.isAgg3
 z3:=Tryz.sizeOf3
 v3:=Tryz.zeroValue3
 t4:=Tryz.underlying4
 a4:=Tryz.isAgg4
 z4:=Tryz.sizeOf4
 v4:=Tryz.zeroValue4
 t5:=Tryz.underlying5
 a5:=Tryz.isAgg5
 z5:=Tryz.sizeOf5
 v5:=Tryz.zeroValue5
 t9:=Tryz.underlying9
 a9:=Tryz.isAgg9
 z9:=Tryz.sizeOf9
 v9:=Tryz.zeroValue9
 t46:=Tryz.underlying156
 a46:=Tryz.isAgg156
 z46:=Tryz.sizeOf156
 v46:=Tryz.zeroValue156
 t51:=Tryz.underlying310
 a51:=Tryz.isAgg310
 z51:=Tryz.sizeOf310
 v51:=Tryz.zeroValue310
 t146:=Tryz.underlying311
 a146:=Tryz.isAgg311
 z146:=Tryz.sizeOf311
 v146:=Tryz.zeroValue311
 g1:=by kernel_rfl
def Ew:Go.Shelf.Ren:=⟨fun|148=>182|222=>246|223=>247|269=>272|n=>n,fun|9=>9|3=>3|4=>4|5=>5|146=>311|51=>310|46=>156|n=>n,fun|n=>n⟩
theorem Kw[MO]:Go.Proofs.Lays.n148 Tryz.prog Ew where
 mixed:=by kernel_rfl
 f148:=Tryz.func182.trans (congrArg some (by kernel_rfl))
 f222:=Tryz.func246.trans (congrArg some (by kernel_rfl))
 f223:=Tryz.func247.trans (congrArg some (by kernel_rfl))
 f269:=Tryz.func272.trans (congrArg some (by kernel_rfl))
 t3:=Tryz.underlying3
 a3:=Tryz.isAgg3
 z3:=Tryz.sizeOf3
 v3:=Tryz.zeroValue3
 t4:=Tryz.underlying4
 a4:=Tryz.isAgg4
 z4:=Tryz.sizeOf4
 v4:=Tryz.zeroValue4
 t5:=Tryz.underlying5
 a5:=Tryz.isAgg5
 z5:=Tryz.sizeOf5
 v5:=Tryz.zeroValue5
 t9:=Tryz.underlying9
 a9:=Tryz.isAgg9
 z9:=Tryz.sizeOf9
 v9:=Tryz.zeroValue9
 t46:=Tryz.underlying156
 a46:=Tryz.isAgg156
 z46:=Tryz.sizeOf156
 v46:=Tryz.zeroValue156
 t51:=Tryz.underlying310
 a51:=Tryz.isAgg310
 z51:=Tryz.sizeOf310
 v51:=Tryz.zeroValue310
 t146:=Tryz.underlying311
 a146:=Tryz.isAgg311
 z146:=Tryz.sizeOf311
 v146:=Tryz.zeroValue311
def UN:Go.Shelf.Ren:=⟨fun|160=>154|232=>203|231=>202|227=>204|234=>206|233=>205|236=>208|235=>207|228=>257|271=>260|151=>259|197=>258|120=>278|152=>277|260=>276|137=>251|119=>285|224=>281|225=>280|217=>275|266=>284|n=>n,fun|9=>9|4=>4|3=>3|5=>5|117=>271|116=>270|0=>0|124=>274|21=>21|105=>318|46=>156|119=>335|139=>338|138=>337|n=>n,fun|3=>8|4=>9|n=>n⟩
theorem X8[MO]:Go.Proofs.Lays.n160 Tryz.prog UN where
 mixed:=by kernel_rfl
 f119:=Tryz.func285.trans (congrArg some (by kernel_rfl))
 f120:=Tryz.func278.trans (congrArg some (by kernel_rfl))
 f137:=Tryz.func251.trans (congrArg some (by kernel_rfl))
 f151:=Tryz.func259.trans (congrArg some (by kernel_rfl))
 f152:=Tryz.func277.trans (congrArg some (by kernel_rfl))
 f160:=Tryz.func154.trans (congrArg some (by kernel_rfl))
 f197:=Tryz.func258.trans (congrArg some (by kernel_rfl))
 f217:=Tryz.func275.trans (congrArg some (by kernel_rfl))
 f224:=Tryz.func281.trans (congrArg some (by kernel_rfl))
 f225:=Tryz.func280.trans (congrArg some (by kernel_rfl))
 f227:=Tryz.func204.trans (congrArg some (by kernel_rfl))
 f228:=Tryz.func257.trans (congrArg some (by kernel_rfl))
 f231:=Tryz.func202.trans (congrArg some (by kernel_rfl))
 f232:=Tryz.func203.trans (congrArg some (by kernel_rfl))
 f233:=Tryz.func205.trans (congrArg some (by kernel_rfl))
 f234:=Tryz.func206.trans (congrArg some (by kernel_rfl))
 f235:=Tryz.func207.trans (congrArg some (by kernel_rfl))
 f236:=Tryz.func208.trans (congrArg some (by kernel_rfl))
 f260:=Tryz.func276.trans (congrArg some (by kernel_rfl))
 f266:=Tryz.func284.trans (congrArg some (by kernel_rfl))
 f271:=Tryz.func260.trans (congrArg some (by kernel_rfl))
 t0:=Tryz.underlying0
 a0:=Tryz.isAgg0
 z0:=Tryz.sizeOf0
 v0:=Tryz.zeroValue0
 t3:=Tryz.underlying3
 a3:=Tryz.isAgg3
 z3:=Tryz.sizeOf3
 v3:=Tryz.zeroValue3
 t4:=Tryz.underlying4
 a4:=Tryz.isAgg4
 z4:=Tryz.sizeOf4
 v4:=Tryz.zeroValue4
 t5:=Tryz.underlying5
 a5:=Tryz.isAgg5
 z5:=Tryz.sizeOf5
 v5:=Tryz.zeroValue5
 t9:=Tryz.underlying9
 a9:=Tryz.isAgg9
 z9:=Tryz.sizeOf9
 v9:=Tryz.zeroValue9
 t21:=Tryz.underlying21
 a21:=Tryz.isAgg21
 z21:=Tryz.sizeOf21
 v21:=Tryz.zeroValue21
 t46:=Tryz.underlying156
 a46:=Tryz.isAgg156
 z46:=Tryz.sizeOf156
 v46:=Tryz.zeroValue156
 t105:=Tryz.underlying318
 a105:=Tryz.isAgg318
 z105:=Tryz.sizeOf318
 v105:=Tryz.zeroValue318
 t116:=Tryz.underlying270
 a116:=Tryz.isAgg270
 z116:=Tryz.sizeOf270
 t117:=Tryz.underlying271
 a117:=Tryz.isAgg271
 z117:=Tryz.sizeOf271
 v117:=Tryz.zeroValue271
 t119:=Tryz.underlying335
 a119:=Tryz.isAgg335
 z119:=Tryz.sizeOf335
 t124:=Tryz.underlying274
 a124:=Tryz.isAgg274
 z124:=Tryz.sizeOf274
 v124:=Tryz.zeroValue274
 t138:=Tryz.underlying337
 a138:=Tryz.isAgg337
 z138:=Tryz.sizeOf337
 v138:=Tryz.zeroValue337
 t139:=Tryz.underlying338
 a139:=Tryz.isAgg338
 z139:=Tryz.sizeOf338
 v139:=Tryz.zeroValue338
 g3:=by kernel_rfl
 g4:=by kernel_rfl
def zA:Go.Shelf.Ren:=⟨fun|150=>249|153=>273|152=>277|226=>283|227=>204|228=>257|137=>251|119=>285|224=>281|225=>280|217=>275|266=>284|n=>n,fun|9=>9|4=>4|3=>3|5=>5|21=>21|117=>271|116=>270|0=>0|46=>156|124=>274|n=>n,fun|n=>n⟩
theorem Ey[MO]:Go.Proofs.Lays.n150 Tryz.prog zA where
 mixed:=by kernel_rfl
 f119:=Tryz.func285.trans (congrArg some (by kernel_rfl))
 f137:=Tryz.func251.trans (congrArg some (by kernel_rfl))
 f150:=Tryz.func249.trans (congrArg some (by kernel_rfl))
 f152:=Tryz.func277.trans (congrArg some (by kernel_rfl))
 f153:=Tryz.func273.trans (congrArg some (by kernel_rfl))
 f217:=Tryz.func275.trans (congrArg some (by kernel_rfl))
 f224:=Tryz.func281.trans (congrArg some (by kernel_rfl))
 f225:=Tryz.func280.trans (congrArg some (by kernel_rfl))
 f226:=Tryz.func283.trans (congrArg some (by kernel_rfl))
 f227:=Tryz.func204.trans (congrArg some (by kernel_rfl))
 f228:=Tryz.func257.trans (congrArg some (by kernel_rfl))
 f266:=Tryz.func284.trans (congrArg some (by kernel_rfl))
 t0:=Tryz.underlying0
 a0:=Tryz.isAgg0
 z0:=Tryz.sizeOf0
 v0:=Tryz.zeroValue0
 t3:=Tryz.underlying3
 a3:=Tryz.isAgg3
 z3:=Tryz.sizeOf3
 v3:=Tryz.zeroValue3
 t4:=Tryz.underlying4
 a4:=Tryz.isAgg4
 z4:=Tryz.sizeOf4
 v4:=Tryz.zeroValue4
 t5:=Tryz.underlying5
 a5:=Tryz.isAgg5
 z5:=Tryz.sizeOf5
 v5:=Tryz.zeroValue5
 t9:=Tryz.underlying9
 a9:=Tryz.isAgg9
 z9:=Tryz.sizeOf9
 v9:=Tryz.zeroValue9
 t21:=Tryz.underlying21
 a21:=Tryz.isAgg21
 z21:=Tryz.sizeOf21
 v21:=Tryz.zeroValue21
 t46:=Tryz.underlying156
 a46:=Tryz.isAgg156
 z46:=Tryz.sizeOf156
 v46:=Tryz.zeroValue156
 t116:=Tryz.underlying270
 a116:=Tryz.isAgg270
 z116:=Tryz.sizeOf270
 t117:=Tryz.underlying271
 a117:=Tryz.isAgg271
 z117:=Tryz.sizeOf271
 v117:=Tryz.zeroValue271
 t124:=Tryz.underlying274
 a124:=Tryz.isAgg274
 z124:=Tryz.sizeOf274
 v124:=Tryz.zeroValue274
def Ez:Go.Shelf.Ren:=⟨fun|105=>151|212=>198|99=>147|165=>84|166=>39|170=>199|169=>42|263=>253|264=>254|206=>197|240=>83|241=>145|276=>144|277=>196|n=>n,fun|9=>9|3=>3|4=>4|20=>20|0=>0|46=>156|109=>265|5=>5|72=>81|76=>84|51=>310|146=>311|53=>313|148=>314|70=>78|37=>79|75=>83|127=>145|164=>215|80=>91|n=>n,fun|n=>n⟩
theorem UO[MO]:Go.Proofs.Lays.n105 Tryz.prog Ez where
 mixed:=by kernel_rfl
 f99:=Tryz.func147.trans (congrArg some (by kernel_rfl))
 f105:=Tryz.func151.trans (congrArg some (by kernel_rfl))
 f165:=Tryz.func84.trans (congrArg some (by kernel_rfl))
 f166:=Tryz.func39.trans (congrArg some (by kernel_rfl))
 f169:=Tryz.func42.trans (congrArg some (by kernel_rfl))
 f170:=Tryz.func199.trans (congrArg some (by kernel_rfl))
 f206:=Tryz.func197.trans (congrArg some (by kernel_rfl))
 f212:=Tryz.func198.trans (congrArg some (by kernel_rfl))
 f240:=Tryz.func83.trans (congrArg some (by kernel_rfl))
 f241:=Tryz.func145.trans (congrArg some (by kernel_rfl))
 f263:=Tryz.func253.trans (congrArg some (by kernel_rfl))
 f264:=Tryz.func254.trans (congrArg some (by kernel_rfl))
 f276:=Tryz.func144.trans (congrArg some (by kernel_rfl))
 f277:=Tryz.func196.trans (congrArg some (by kernel_rfl))
 t0:=Tryz.underlying0
 a0:=Tryz.isAgg0
 z0:=Tryz.sizeOf0
 v0:=Tryz.zeroValue0
 t3:=Tryz.underlying3
 a3:=Tryz.isAgg3
 z3:=Tryz.sizeOf3
 v3:=Tryz.zeroValue3
 t4:=Tryz.underlying4
 a4:=Tryz.isAgg4
 z4:=Tryz.sizeOf4
 v4:=Tryz.zeroValue4
 t5:=Tryz.underlying5
 a5:=Tryz.isAgg5
 z5:=Tryz.sizeOf5
 v5:=Tryz.zeroValue5
 t9:=Tryz.underlying9
 a9:=Tryz.isAgg9
 z9:=Tryz.sizeOf9
 v9:=Tryz.zeroValue9
 t20:=Tryz.underlying20
 a20:=Tryz.isAgg20
 z20:=Tryz.sizeOf20
 v20:=Tryz.zeroValue20
 t37:=Tryz.underlying79
 a37:=Tryz.isAgg79
 z37:=Tryz.sizeOf79
 v37:=Tryz.zeroValue79
 t46:=Tryz.underlying156
 a46:=Tryz.isAgg156
 z46:=Tryz.sizeOf156
 v46:=Tryz.zeroValue156
 t51:=Tryz.underlying310
 a51:=Tryz.isAgg310
 z51:=Tryz.sizeOf310
 v51:=Tryz.zeroValue310
 t53:=Tryz.underlying313
 a53:=Tryz.isAgg313
 z53:=Tryz.sizeOf313
 v53:=Tryz.zeroValue313
 t70:=Tryz.underlying78
 a70:=Tryz.isAgg78
 z70:=Tryz.sizeOf78
 v70:=Tryz.zeroValue78
 t72:=Tryz.underlying81
 a72:=Tryz.isAgg81
 z72:=Tryz.sizeOf81
 v72:=Tryz.zeroValue81
 t75:=Tryz.underlying83
 a75:=Tryz.isAgg83
 z75:=Tryz.sizeOf83
 v75:=Tryz.zeroValue83
 t76:=Tryz.underlying84
 a76:=Tryz.isAgg84
 z76:=Tryz.sizeOf84
 v76:=Tryz.zeroValue84
 t109:=Tryz.underlying265
 a109:=Tryz.isAgg265
 z109:=Tryz.sizeOf265
 v109:=Tryz.zeroValue265
 t127:=Tryz.underlying145
 a127:=Tryz.isAgg145
 z127:=Tryz.sizeOf145
 v127:=Tryz.zeroValue145
 t146:=Tryz.underlying311
 a146:=Tryz.isAgg311
 z146:=Tryz.sizeOf311
 v146:=Tryz.zeroValue311
 t148:=Tryz.underlying314
 a148:=Tryz.isAgg314
 z148:=Tryz.sizeOf314
 v148:=Tryz.zeroValue314
 t164:=Tryz.underlying215
 a164:=Tryz.isAgg215
 z164:=Tryz.sizeOf215
 v164:=Tryz.zeroValue215
def NH:Go.Shelf.Ren:=⟨fun|156=>40|165=>84|166=>39|169=>42|240=>83|241=>145|276=>144|277=>196|n=>n,fun|31=>23|9=>9|3=>3|4=>4|0=>0|20=>20|72=>81|76=>84|70=>78|37=>79|75=>83|127=>145|164=>215|5=>5|80=>91|n=>n,fun|n=>n⟩
theorem Xa[MO]:Go.Proofs.Lays.n156 Tryz.prog NH where
 mixed:=by kernel_rfl
 f156:=Tryz.func40.trans (congrArg some (by kernel_rfl))
 f165:=Tryz.func84.trans (congrArg some (by kernel_rfl))
 f166:=Tryz.func39.trans (congrArg some (by kernel_rfl))
 f169:=Tryz.func42.trans (congrArg some (by kernel_rfl))
 f240:=Tryz.func83.trans (congrArg some (by kernel_rfl))
 f241:=Tryz.func145.trans (congrArg some (by kernel_rfl))
 f276:=Tryz.func144.trans (congrArg some (by kernel_rfl))
 f277:=Tryz.func196.trans (congrArg some (by kernel_rfl))
 t0:=Tryz.underlying0
 a0:=Tryz.isAgg0
 z0:=Tryz.sizeOf0
 v0:=Tryz.zeroValue0
 t3:=Tryz.underlying3
 a3:=Tryz.isAgg3
 z3:=Tryz.sizeOf3
 v3:=Tryz.zeroValue3
 t4:=Tryz.underlying4
 a4:=Tryz.isAgg4
 z4:=Tryz.sizeOf4
 v4:=Tryz.zeroValue4
 t9:=Tryz.underlying9
 a9:=Tryz.isAgg9
 z9:=Tryz.sizeOf9
 v9:=Tryz.zeroValue9
 t20:=Tryz.underlying20
 a20:=Tryz.isAgg20
 z20:=Tryz.sizeOf20
 v20:=Tryz.zeroValue20
 t31:=Tryz.underlying23
 a31:=Tryz.isAgg23
 z31:=Tryz.sizeOf23
 v31:=Tryz.zeroValue23
 t37:=Tryz.underlying79
 a37:=Tryz.isAgg79
 z37:=Tryz.sizeOf79
 v37:=Tryz.zeroValue79
 t70:=Tryz.underlying78
 a70:=Tryz.isAgg78
 z70:=Tryz.sizeOf78
 v70:=Tryz.zeroValue78
 t72:=Tryz.underlying81
 a72:=Tryz.isAgg81
 z72:=Tryz.sizeOf81
 v72:=Tryz.zeroValue81
 t75:=Tryz.underlying83
 a75:=Tryz.isAgg83
 z75:=Tryz.sizeOf83
 v75:=Tryz.zeroValue83
 t76:=Tryz.underlying84
 a76:=Tryz.isAgg84
 z76:=Tryz.sizeOf84
 v76:=Tryz.zeroValue84
 t127:=Tryz.underlying145
 a127:=Tryz.isAgg145
 z127:=Tryz.sizeOf145
 v127:=Tryz.zeroValue145
 t164:=Tryz.underlying215
 a164:=Tryz.isAgg215
 z164:=Tryz.sizeOf215
 v164:=Tryz.zeroValue215
def UQ:Go.Shelf.Ren:=⟨fun|171=>223|243=>266|246=>279|283=>286|284=>287|285=>288|286=>289|129=>292|317=>291|318=>293|319=>294|320=>295|337=>296|338=>297|n=>n,fun|3=>3|9=>9|2=>2|4=>4|171=>339|0=>0|53=>313|37=>79|5=>5|173=>341|212=>344|51=>310|20=>20|213=>345|46=>156|232=>346|233=>347|n=>n,fun|17=>10|18=>11|19=>12|n=>n⟩
theorem X9[MO]:Go.Proofs.LaysM.n171 Tryz.prog UQ where
 mixed:=by kernel_rfl
 f129:=Tryz.func292.trans (congrArg some (by kernel_rfl))
 f171:=Tryz.func223.trans (congrArg some (by kernel_rfl))
 f243:=Tryz.func266.trans (congrArg some (by kernel_rfl))
 f246:=Tryz.func279.trans (congrArg some (by kernel_rfl))
 f283:=Tryz.func286.trans (congrArg some (by kernel_rfl))
 f284:=Tryz.func287.trans (congrArg some (by kernel_rfl))
 f285:=Tryz.func288.trans (congrArg some (by kernel_rfl))
 f286:=Tryz.func289.trans (congrArg some (by kernel_rfl))
 f317:=Tryz.func291.trans (congrArg some (by kernel_rfl))
 f318:=Tryz.func293.trans (congrArg some (by kernel_rfl))
 f319:=Tryz.func294.trans (congrArg some (by kernel_rfl))
 f320:=Tryz.func295.trans (congrArg some (by kernel_rfl))
 f337:=Tryz.func296.trans (congrArg some (by kernel_rfl))
 f338:=Tryz.func297.trans (congrArg some (by kernel_rfl))
 t0:=Tryz.underlying0
 a0:=Tryz.isAgg0
 z0:=Tryz.sizeOf0
 v0:=Tryz.zeroValue0
 t2:=Tryz.underlying2
 a2:=Tryz.isAgg2
 z2:=Tryz.sizeOf2
 v2:=Tryz.zeroValue2
 t3:=Tryz.underlying3
 a3:=Tryz.isAgg3
 z3:=Tryz.sizeOf3
 v3:=Tryz.zeroValue3
 t4:=Tryz.underlying4
 a4:=Tryz.isAgg4
 z4:=Tryz.sizeOf4
 v4:=Tryz.zeroValue4
 t5:=Tryz.underlying5
 a5:=Tryz.isAgg5
 z5:=Tryz.sizeOf5
 v5:=Tryz.zeroValue5
 t9:=Tryz.underlying9
 a9:=Tryz.isAgg9
 z9:=Tryz.sizeOf9
 v9:=Tryz.zeroValue9
 t20:=Tryz.underlying20
 a20:=Tryz.isAgg20
 z20:=Tryz.sizeOf20
 v20:=Tryz.zeroValue20
 t37:=Tryz.underlying79
 a37:=Tryz.isAgg79
 z37:=Tryz.sizeOf79
 v37:=Tryz.zeroValue79
 t46:=Tryz.underlying156
 a46:=Tryz.isAgg156
 z46:=Tryz.sizeOf156
 v46:=Tryz.zeroValue156
 t51:=Tryz.underlying310
 a51:=Tryz.isAgg310
 z51:=Tryz.sizeOf310
 v51:=Tryz.zeroValue310
 t53:=Tryz.underlying313
 a53:=Tryz.isAgg313
 z53:=Tryz.sizeOf313
 v53:=Tryz.zeroValue313
 t171:=Tryz.underlying339
 a171:=Tryz.isAgg339
 z171:=Tryz.sizeOf339
 v171:=Tryz.zeroValue339
 t173:=Tryz.underlying341
 a173:=Tryz.isAgg341
 z173:=Tryz.sizeOf341
 v173:=Tryz.zeroValue341
 t212:=Tryz.underlying344
 a212:=Tryz.isAgg344
 z212:=Tryz.sizeOf344
 v212:=Tryz.zeroValue344
 t213:=Tryz.underlying345
 a213:=Tryz.isAgg345
 z213:=Tryz.sizeOf345
 t232:=Tryz.underlying346
 a232:=Tryz.isAgg346
 z232:=Tryz.sizeOf346
 v232:=Tryz.zeroValue346
 t233:=Tryz.underlying347
 a233:=Tryz.isAgg347
 z233:=Tryz.sizeOf347
 v233:=Tryz.zeroValue347
 g17:=by kernel_rfl
 g18:=by kernel_rfl
 g19:=by kernel_rfl
 i0:=by kernel_rfl
 i2:=by kernel_rfl
 i3:=by kernel_rfl
 i4:=by kernel_rfl
 i5:=by kernel_rfl
 i9:=by kernel_rfl
 i20:=by kernel_rfl
 i37:=by kernel_rfl
 i46:=by kernel_rfl
 i51:=by kernel_rfl
 i53:=by kernel_rfl
 i171:=by kernel_rfl
 i173:=by kernel_rfl
 i212:=by kernel_rfl
 i232:=by kernel_rfl
 i233:=by kernel_rfl
 m17:=by kernel_rfl
 m18:=by kernel_rfl
 m19:=by kernel_rfl
theorem oU{c:C}{l:S}{x:Value}(h:VRel c (.str l) x):x= .string ⟨l.toArray⟩:=by
 simp only[VRel]at h;obtain⟨s,rfl,h,_⟩:=h
 congr 1
 rw[<-h]
theorem EC[MO](s:S)(n:Nat)(hn:n<256):Ev TE 251 [.str s,.int .u8 n] (vi (Lib.indexByte s (UInt8.ofNat n))):=by intro ok w vs hs hl;simp only[VList,VRel]at hl;obtain⟨y,ys,rfl,⟨b,rfl,hb,_⟩,y2,ys2,rfl,rfl,rfl⟩:=hl;refine Calls.mono (Any.strings_IndexByte Kv b n w) ?_;rintro en w' ⟨rfl,rfl⟩;refine⟨_,rfl,WExt.refl _,?_⟩;simp only[VRel];rw[hb];rfl
theorem NI[MO](s:S)(c:UInt8):Ev TE 181 [.str s,.str [c]] (vi (s.count c:Nat)):=by intro ok w vs hs hl;simp only[VList]at hl;obtain⟨y,ys,rfl,h1,y2,ys2,rfl,h2,rfl⟩:=hl;have:=oU h1;subst this;have:=oU h2;subst this;refine Calls.mono (Any.strings_Count_one W9 ⟨s.toArray⟩ c w) ?_;rintro en w' ⟨rfl,rfl⟩;exact⟨_,rfl,WExt.refl _,by simp only[VRel];rfl⟩
theorem Q4[MO](s:S)(c:UInt8)(hs0:s.length<=1000000000):Ev TE 182 [.str s,.str [c]] (vi (Lib.lastIndexByte ⟨s.toArray⟩ c.toNat)):=by intro ok w vs hs hl;simp only[VList]at hl;obtain⟨y,ys,rfl,h1,y2,ys2,rfl,h2,rfl⟩:=hl;have:=oU h1;subst this;have:=oU h2;subst this;refine Calls.mono (Any.strings_LastIndex_one Kw ⟨s.toArray⟩ ⟨#[c]⟩ rfl (by show s.toArray.size<_;simp;omega) w) ?_;rintro en w' ⟨rfl,rfl⟩;exact⟨_,rfl,WExt.refl _,by simp only[VRel];rfl⟩
theorem YI:Builder.Extra Tryz.prog Ez where
 sizeBuilder:=by kernel_rfl
 liesBuilder:=by kernel_rfl
 t5:=Tryz.underlying5
 a5:=Tryz.isAgg5
 z5:=Tryz.sizeOf5
 v5:=Tryz.zeroValue5
 infoByte:=by kernel_rfl
 cellsByte:=by kernel_rfl
 sizeByte:=by kernel_rfl
 neB5:=by decide
theorem ED{α:Type}(p:α->Bool)(l:List α):(l.dropWhile p).length<=l.length:=(List.dropWhile_sublist p).length_le
theorem NJ(l cs:S):(Lib.trimS l cs).length<=l.length:=by unfold Lib.trimS Lib.trimLeftS Lib.trimRightS;refine Nat.le_trans (ED _ _) ?_;rw[List.length_reverse];exact Nat.le_trans (ED _ _) (by rw[List.length_reverse];exact zrb _)
theorem sW{w w':World}(x:Below w.heap.size w w'):WExt w w':=⟨x.os,x.tape,x.output,x.size,x.block⟩
theorem BZ[MO](s cut:S)(hc:cut.length<=1000)(ha:∀b∈cut,b.toNat<128):Ev TE 154 [.str s,.str cut] (.str (Lib.trimS s cut)):=by
 intro ok w vs hs hl;simp only[VList]at hl;obtain⟨y,ys,rfl,h1,y2,ys2,rfl,h2,rfl⟩:=hl;have hsl:s.length<=maxLen:=by obtain⟨_,_,_,h⟩:=(show ∃s':ByteArray,y= .string s'/\s'.data.toList=s/\s.length<=maxLen by simpa only[VRel]using h1);exact h
 have:=oU h1;subst this;have:=oU h2;subst this;refine Calls.mono (Any.strings_Trim_laid X8 (by kernel_rfl) ⟨s.toArray⟩ ⟨cut.toArray⟩ w (by show s.toArray.size<=_;rw[List.size_toArray];exact hsl) (by show cut.toArray.size<_;simp;omega) (fun j b hj=>ha b (List.mem_of_getElem? hj))) ?_;rintro en w' ⟨rfl,hw⟩;refine⟨_,rfl,sW hw,?_⟩;simp only[VRel];exact⟨_,rfl,rfl,Nat.le_trans (NJ s cut) hsl⟩
theorem Q5[MO](s cs:S)(hs0:s.length<=1000000)(hc:cs.length<=1000)(ha:∀b∈s,b.toNat<128)(hca:∀b∈cs,b.toNat<128):Ev TE 249 [.str s,.str cs] (.bool (Lib.containsAny s cs)):=by intro ok w vs hs hl;simp only[VList]at hl;obtain⟨y,ys,rfl,h1,y2,ys2,rfl,h2,rfl⟩:=hl;have:=oU h1;subst this;have:=oU h2;subst this;refine Calls.mono (Any.strings_ContainsAny_laid Ey (by kernel_rfl) ⟨s.toArray⟩ ⟨cs.toArray⟩ w (by show s.toArray.size<_;simp;omega) (by show cs.toArray.size<_;simp;omega) (fun j b hj=>ha b (List.mem_of_getElem? hj)) (fun j b hj=>hca b (List.mem_of_getElem? hj))) ?_;rintro en w' ⟨rfl,hw⟩;exact⟨_,rfl,sW hw,by simp only[VRel]⟩
theorem EE[MO](s:S)(n:Nat)(hs0:s.length<=1000)(hn:n<=1000000):Ev TE 151 [.str s,vi n] (.str (Lib.repeatL s n)):=by intro ok w vs hs hl;simp only[VList]at hl;obtain⟨y,ys,rfl,h1,y2,ys2,rfl,h2,rfl⟩:=hl;have:=oU h1;subst this;simp only[VRel]at h2;subst h2;have hp:s.length*n<=1000*1000000:=Nat.mul_le_mul hs0 hn;refine Calls.mono (Any.strings_Repeat Go.Proofs.YthaijohbpdabfaaGreatDoor.UO YI ⟨s.toArray⟩ n w (by omega) (by show s.toArray.size*n<=_;simp;omega)) ?_;rintro en w' ⟨rfl,hw⟩;refine⟨_,rfl,sW hw,?_⟩;simp only[VRel];exact⟨_,rfl,rfl,by rw[Lib.repeatL_length];show _<=9223372036854775807;rw[Nat.mul_comm];omega⟩
theorem IJ{c:C}:∀ {l:List S} {xs:List Value},VList c (l.map V.str) xs->xs=l.map fun s:S=>Value.string ⟨s.toArray⟩
 |[],xs,h=>by simpa only[List.map_nil,VList]using h
 |a::l,xs,h=>by simp only[zrd,VList]at h;obtain⟨y,ys,rfl,h1,h2⟩:=h;rw[IJ h2,oU h1];rfl
theorem Xb:Builder.Extra Tryz.prog NH where
 sizeBuilder:=by kernel_rfl
 liesBuilder:=by kernel_rfl
 t5:=Tryz.underlying5
 a5:=Tryz.isAgg5
 z5:=Tryz.sizeOf5
 v5:=Tryz.zeroValue5
 infoByte:=by kernel_rfl
 cellsByte:=by kernel_rfl
 sizeByte:=by kernel_rfl
 neB5:=by decide
theorem UR{w:World}{b o:Nat}{v:Value}(h:w.cell? ⟨b,o,none⟩=some v):b<w.heap.size:=by
 rcases Nat.lt_or_ge b w.heap.size with h1|h1
 ·exact h1
 ·exfalso;unfold World.cell? at h;simp[Array.getElem?_eq_none h1]at h
theorem Aa:∀l:List S,(l.map fun s:S=>(⟨s.toArray⟩:ByteArray)).map (·.data.toList)=l
 |[]=>rfl
 |a::l=>by rw[zrd,zrd,Aa l]
theorem Q7[MO](l:List S)(sep:S)(hn:l.length<=100000000)(hj:(Lib.join l sep).length<=100000000):Ev TE 40 [aN l,.str sep] (.str (Lib.join l sep)):=by
 intro ok w vs hs hl;simp only[VList]at hl;obtain⟨y,ys,rfl,h1,y2,ys2,rfl,h2,rfl⟩:=hl;have:=oU h2;subst this;simp only[VRel]at h1;obtain⟨a,cp,rfl,hle,hcp,_,hel⟩:=h1;rw[zra]at hle;have fin:Calls TE.P 40 (Value.slice a (l.map V.str).length cp::Value.string ⟨sep.toArray⟩::[]).toArray w fun en w'=>en= .returned (.string ⟨(Lib.join l sep).toArray⟩)/\Below w.heap.size w w':=by
  rw[zra];rcases l with _|⟨s0,l0⟩
  ·exact(Any.strings_Join_none Xa Xb a cp ⟨sep.toArray⟩ w).mono fun e w' ⟨he,hw⟩=>⟨he,hw▸Below.refl _ _⟩
  ·obtain⟨b,off,rfl,hv⟩:=hel.resolve_left (by simp);obtain⟨xs,hx1,hx2,hx3⟩:=VElems.list hv (by intro v hv;obtain⟨s,_,rfl⟩:=zrh.1 hv;rfl);have hxs:=IJ hx3;subst hxs;have dV:∀(j:Nat)(x:ByteArray),((s0::l0).map fun s:S=>(⟨s.toArray⟩:ByteArray))[j]? =some x->w.cell? ⟨b,off+j,none⟩=some (.string x):=fun j x hj=>by
    refine hx2 j _ ?_;rw[zqo]at hj ⊢;cases hg:(s0::l0)[j]? with
    |none=>rw[hg]at hj;simp at hj
    |some s=>rw[hg]at hj;simp at hj;subst hj;rfl
   have hmm:=Aa (s0::l0);have:=Any.strings_Join Xa Xb b off cp ((s0::l0).map fun s:S=>(⟨s.toArray⟩:ByteArray)) ⟨sep.toArray⟩ w dV (UR (dV 0 _ rfl)) (by simp at hn ⊢;omega) (by simpa using hle) (by rw[hmm];show(Lib.join (s0::l0) sep).length<=_;omega);rw[hmm,zra]at this;exact this
 refine Calls.mono fin ?_;rintro en w' ⟨rfl,hb⟩;refine⟨_,rfl,sW hb,?_⟩;simp only[VRel];exact⟨_,rfl,by simp,by have hM:=mLx;omega⟩
theorem Q8(w:World)(k:Nat)(os:Array Obj):WExt w (Sort.grow (w.drewN k) os):=by
 refine⟨rfl,rfl,rfl,?_,fun b hb=> ?_⟩
 ·show w.heap.size<=(w.heap++os).size;simp
 ·show(w.heap++os)[b]? =w.heap[b]?;rw[Array.getElem?_append_left hb]
theorem Xc{w:World}{name:String}{g:Nat}{cs:Array Value}{ty:TypeId}{fz:Nat×Nat}(hn:Tryz.prog.globalNamed name=some g)(hg:w.heap[g]? =some (.cells cs ty fz)):w.var? Tryz.prog name=some cs:=by unfold World.var?;rw[hn];simp[hg]
theorem xZ:∀(k u:Nat),u<10^(k+1)->Lib.nDigits u<=k+1
 |0,u,h=>by rw[Lib.nDigits_small (by simpa using h)];exact zrb _
 |k+1,u,h=>by
  by_cases hu:u<10
  ·rw[Lib.nDigits_small hu];omega
  ·rw[Lib.nDigits_big hu];have:=xZ k (u/10) (by rw[Nat.pow_succ]at h;omega);omega
theorem IK(n:Int)(h0:0<=n)(h1:n<=2147483647):(Lib.itoa n).length<=10:=by obtain⟨m,rfl⟩:∃m:Nat,n=m:=⟨n.toNat,by omega⟩;unfold Lib.itoa;rw[if_neg (by omega),zsg,Lib.decDigits_length];exact xZ 9 m (by omega)
theorem UT [MO] (n : Int) (h0 : -9223372036854775808 ≤ n) (h1 : n ≤ 9223372036854775807) (w : World) (htab : Lib.TabIs Tryz.prog w "internal/strconv.uint64pow10" .u64 Lib.pow10Tab) :
 Calls Tryz.prog 223 #[.int .i64 n] w fun e w'=>e= .returned (.string ⟨(Lib.itoa n).toArray⟩)/\∃k os,w'=Sort.grow (w.drewN k) os:=Any.strconv_Itoa X9 n h0 h1 w htab
theorem UU[MO](n:Int)(h0:0<=n)(h1:n<=2147483647):Ev TE 223 [vi n] (.str (Lib.itoa n)):=by intro ok w vs hs hl;simp only[VList,VRel]at hl;obtain⟨y,ys,rfl,rfl,rfl⟩:=hl;obtain⟨_,cs,ty,fz,hg0,hg1⟩:=hs.exa 10 _ rfl;have hg1:cs=_:=hg1;subst hg1;refine Calls.mono (UT n (by omega) (by omega) w (Xc (by kernel_rfl) hg0)) ?_;rintro en w' ⟨rfl,k,os,rfl⟩;refine⟨_,rfl,Q8 w k os,?_⟩;simp only[VRel];exact⟨_,rfl,by simp,by have:=IK n h0 h1;simp only[maxLen];omega⟩
theorem GR(p s:S):p.isPrefixOf s=(decide (p.length<=s.length)&&(s.take p.length==p)):=by
 rw[Bool.eq_iff_iff,List.isPrefixOf_iff_prefix,List.prefix_iff_eq_take,zqf,zqb,beq_iff_eq];constructor
 ·intro h;have:=congrArg List.length h;rw[zrl]at this;exact⟨by omega,h.symm⟩
 ·exact fun h=>h.2.symm
theorem EF[MO](s p:S):Ev TE 197 [.str s,.str p] (.bool (p.isPrefixOf s)):=by
 rw[GR];refine ak Tryz.func197 rfl (by simp[nts]) (vm ?_);by_cases hle:p.length<=s.length
 ·have e1:decide ((p.length:Int)<=(s.length:Int))=true:=by simpa using hle
  have e2:decide (p.length<=s.length)=true:=by simpa using hle
  simp only[wq.1,seval,Tryz.results197,e1,e2];exact⟨⟨by omega,by omega⟩,aG.dat rfl⟩
 ·have e1:decide ((p.length:Int)<=(s.length:Int))=false:=by simpa using hle
  have e2:decide (p.length<=s.length)=false:=by simpa using hle
  simp only[wq.1,seval,Tryz.results197,e1,e2];exact aG.dat rfl
theorem UV[MO](s p:S):Ev TE 147 [.str s,.str p] (.bool (p.isPrefixOf s)):=by refine ak Tryz.func147 rfl (by simp[nts]) (vm ?_);simp only[wq.1,seval,Tryz.results147];refine ag.ev (EF s p) rfl ?_;simp only[wq.1,seval];exact aG.dat rfl
theorem Xd(c d:UInt8):((c.toNat:Int) != (d.toNat:Int))=(c != d):=by
 rw[bne,bne]
 congr 1
 rw[Bool.eq_iff_iff,beq_iff_eq,beq_iff_eq,Int.ofNat_inj];exact⟨fun h=>UInt8.toNat_inj.1 h,fun h=>by rw[h]⟩
theorem Xe(c d:UInt8):((c.toNat:Int)==(d.toNat:Int))=(c==d):=by rw[Bool.eq_iff_iff,beq_iff_eq,beq_iff_eq,Int.ofNat_inj];exact⟨fun h=>UInt8.toNat_inj.1 h,fun h=>by rw[h]⟩
theorem Cb:∀(l:S)(c:UInt8),decide (Lib.indexByte l c<0)= !l.contains c
 |[],c=>rfl
 |x::l,c=>by
  have ih:=Cb l c;rw[List.contains_cons];by_cases h:x=c
  ·subst h;simp[Lib.indexByte]
  ·have h1:(x==c)=false:=by simpa using h
   have h2:(c==x)=false:=by simpa using fun e:c=x=>h e.symm
   rw[h2,Bool.false_or,<-ih,Lib.indexByte,h1];have h3:=Lib.indexByte_ge l c;generalize Lib.indexByte l c=z at *;by_cases hm:z=-1
   ·subst hm;rfl
   ·have:(z==-1)=false:=by simpa using hm
    rw[this];simp;omega
theorem IL(l:S)(c:UInt8):decide (0<=Lib.indexByte l c)=l.contains c:=by have:=Cb l c;rw[<-Bool.not_not (b:=l.contains c),<-this,<-decide_not];exact decide_eq_decide.2 (by omega)
theorem Q9[MO](c:UInt8):Ev TE 324 [vb c] (.bool (c != 10)):=by refine ak Tryz.func324 rfl (by simp[nts]) (vm ?_);simp only[wq.1,seval,Tryz.results324];refine aG.eq rfl ?_;rw[<-Xd c 10];rfl
def Dt(p:UInt8->Bool)(s:S):Nat:=(s.takeWhile p).length
theorem EG{p:UInt8->Bool}{s:S}{n:Nat}(h:n<=s.length)(ha:∀x∈s.take n,p x=true)(hs:∀hn:n<s.length,p s[n]=false):Dt p s=n:=by
 have e:s=s.take n++s.drop n:=(List.take_append_drop n s).symm;have h1:(s.drop n).takeWhile p=[]:=by
  by_cases hn:n<s.length
  ·rw[List.drop_eq_getElem_cons hn,List.takeWhile_cons,hs hn];rfl
  ·rw[List.drop_eq_nil_of_le (by omega)];rfl
 unfold Dt;rw[e,List.takeWhile_append_of_pos ha,h1,zqp,zrl];omega
theorem TM[MO](s:S)(a:Nat)(q:FuncId)(p:UInt8->Bool)(ha:a<=s.length)(hs:s.length<=1000000000)(he:ah P q=true)(hq:∀c:UInt8,Ev TE q [vb c] (.bool (p c))) :
 Ev TE 321 [.str s,vi a,.fn (.func q) [] []] (vi (Dt p (s.drop a))):=by
 have hM:=mLx;refine ak Tryz.func321 rfl (by simp[nts]) (vm ?_);simp only[wq.1,Nat.reduceLT,Tryz.results321];refine aC (fun m f h=>∃i,m+i=s.length-a/\f.t 0= .str s/\f.t 1=vi a/\f.t 2= .fn (.func q) [] []/\f.t 7=vi i/\f.d=[]/\∀x∈(s.drop a).take i,p x=true) (s.length-a) ⟨0,by simp,rfl,rfl,rfl,rfl,rfl,by simp⟩ ?_;rintro m f h ⟨i,hm,h0,h1,h2,h7,hd,hall⟩;have hl:(s.drop a).length=s.length-a:=List.length_drop ..;have w1:IntKind.i64.wrap ((a:Int)+i)=((a+i:Nat):Int):=by rw[iL (by omega) (by omega)];omega
 refine vm ?_;by_cases hc:a+i<s.length
 ·have hc':decide (((a+i:Nat):Int)<s.length)=true:=by simp;omega
  have hg:(s.drop a)[i]'(by omega)=s[a+i]:=List.getElem_drop ..;simp only[wq.1,seval,h0,h1,h2,h7,w1,hc',QQ hc,he];refine⟨⟨by omega,by omega⟩,ag.ev (hq _) rfl ?_⟩;simp only[wq.1,seval];cases hp:p s[a+i]with
  |true=>simp only[wq.1,seval,h7,aB (show i<maxLen by omega)];exact .inl ⟨m-1,by omega,i+1,by omega,h0,h1,h2,rfl,hd,bT (by omega) hall (by rw[hg];exact hp)⟩
  |false=>simp only[wq.1,seval,h7,hd];rw[EG (n:=i) (by omega) hall (fun _=>by rw[hg];exact hp)];exact aG.dat rfl
 ·have hc':decide (((a+i:Nat):Int)<s.length)=false:=by simp;omega
  simp only[wq.1,seval,h0,h1,h2,h7,w1,hc'];refine⟨.any,?_⟩;simp only[wq.1,seval,h7,hd];rw[EG (n:=i) (by omega) hall (fun h=>absurd h (by omega))];exact aG.dat rfl
theorem UW[MO](s:S)(a:Nat)(ha:a<=s.length)(hs:s.length<=1000000000):Ev TE 319 [.str s,vi a] (vi (Dt (· != 10) (s.drop a))):=by refine ak Tryz.func319 rfl (by simp[nts]) (vm ?_);simp only[wq.1,seval,Tryz.results319];refine ag.ev (TM s a 324 _ ha hs (by simp[ens]) Q9) rfl ?_;simp only[wq.1,seval];exact aG.dat rfl
abbrev Tk.v(t:Tk):V:= .agg [vi t.k,.str t.t,vi t.at']
abbrev qZ(l:List Tk):V:= .is false 3 (l.map Tk.v)
theorem NK[MO](n:Int):Ev TE 318 [vi n] (.tup [.agg [vi (-1),.str [],vi 0],vi n]):=by refine ak Tryz.func318 rfl (by simp[nts]) (vm ?_);simp only[wq.1,seval,Tryz.results318];exact aG.dat rfl
theorem TN[MO](k:Int)(s:S)(a n:Nat)(hn:n≠0)(ha:a+n<=s.length)(hs:s.length<=1000000000):Ev TE 320 [vi k,.str s,vi a,vi n] (.tup [.agg [vi k,.str ((s.drop a).take n),vi a],vi n]):=by
 have e0:((n:Int)==0)=false:=by simpa using hn
 have w1:IntKind.i64.wrap ((a:Int)+n)=((a+n:Nat):Int):=by rw[iL (by omega) (by omega)];omega
 refine ak Tryz.func320 rfl (by simp[nts]) (vm ?_);simp only[wq.1,seval,Tryz.results320,e0,w1];rw[Nat.add_sub_cancel_left];exact⟨by omega,aG.dat rfl⟩
theorem Cc(p:UInt8->Bool):∀l:S,l.dropWhile p=l.drop (Dt p l)
 |[]=>rfl
 |x::l=>by
  unfold Dt;cases h:p x with
  |true=>rw[List.dropWhile_cons,if_pos h,List.takeWhile_cons,if_pos h,zrt,List.drop_succ_cons,Cc p l];rfl
  |false=>rw[List.dropWhile_cons,if_neg (by rw[h];decide),List.takeWhile_cons,if_neg (by rw[h];decide)];rfl
abbrev tkO:Option Tk->V
 |some t=>t.v
 |none=> .agg [vi (-1),.str [],vi 0]
abbrev tkF(t:Tk):List V:=[vi t.k,.str t.t,vi t.at']
def tkC(l:List Tk):List V:=l.flatMap tkF
theorem UX(l:List Tk)(t:Tk):tkC (l++[t])=tkC l++tkF t:=by simp[tkC]
theorem UY(l:List Tk):(tkC l).length=l.length*3:=by
 induction l with
 |nil=>rfl
 |cons t l ih=>show(_::_::_::tkC l).length=_;simp only[zrt,ih];omega
theorem x8{p:Nat->Bool}:∀l:List Tk,V.drops p (tkC l)=tkC l
 |[]=>rfl
 |t::l=>by show V.drop p (vi t.k)::V.drop p (.str t.t)::V.drop p (vi t.at')::V.drops p (tkC l)=_;rw[x8 l];rfl
theorem IM:∀l:List Tk,V.dats (tkC l)=true
 |[]=>rfl
 |t::l=>by show(V.dat (vi t.k)&&(V.dat (.str t.t)&&(V.dat (vi t.at')&&V.dats (tkC l))))=true;rw[IM l];rfl
theorem TP:∀l:List Tk,bZ 3 (l.map Tk.v)=true
 |[]=>rfl
 |t::l=>by show(_&&bZ 3 (l.map Tk.v))=true;rw[TP l];rfl
theorem Xf:∀l:List Tk,(l.map Tk.v).flatMap V.vc=tkC l
 |[]=>rfl
 |t::l=>by show V.vc (Tk.v t)++(l.map Tk.v).flatMap V.vc=_;rw[Xf l];rfl
theorem NL[MO]{h:H}{id len cap:Nat}{l:List Tk}(hc:h[id]? =some (.cells (tkC l)))(hl:len=l.length):aG TE h (.ls id 3 0 len cap) (qZ l) :=
 aG.ls hc (ay.dat (IM l)) (TP l) (Xf l) (by rw[zra];exact hl)
theorem NM[MO]{h:H}{K:H->(Nat->Bool)->Prop}(hK:∀X,K (h++[X]) (fun _=>false)):jv TE 118 [.lp 0 0,.lp 1 0,.lp 2 0] h K:=by
 have hgE:∀x:O,(h++[x])[h.length]? =some x:=fun x=>by simp
 have hgS:∀x y:O,(h++[x]).set h.length y=h++[y]:=fun x y=>by simp
 refine lw rfl Tryz.func118 rfl rfl (by simp[nts]) rfl (fun ev w=>rfl) rfl (by decide) ?_;simp only[nts];refine eX rfl rfl ?_;refine jW (x:= .tmp 6) (t:=193) (q:=⟨.struct [(0,3)],1,8,.agg [vi 0]⟩) rfl (by simp only[wq.1]) (by simp only[wq.1,↓reduceIte]) (by simp only[wq.1,↓reduceIte]) ?_;refine az rfl rfl ?_;simp only[wq.1,↓reduceIte];refine az rfl rfl ?_;simp only[wq.1,seval];refine az rfl rfl ?_;simp only[wq.1,seval];refine az rfl rfl ?_;simp only[wq.1];refine az rfl rfl ?_;simp only[wq.1,seval,hgE,hgS];refine az rfl rfl ?_;simp only[wq.1,seval];refine dX ?_;show awp _ _ _ _ _ _ _;refine vm ?_;simp only[wq.1,seval];exact hK _
abbrev Ga.v(g:Ga):V:= .agg [.str g.name,vi g.op,aN g.ins,aN g.rows,.bool g.off]
abbrev La.v(q:La):V:= .agg [.str q.name,.str q.next,vi q.init]
abbrev iG(l:List Ga):V:= .is false 5 (l.map Ga.v)
abbrev kG(l:List La):V:= .is false 3 (l.map La.v)
abbrev Ci.v(c:Ci):V:= .agg [aN c.ins,aN c.outs,kG c.lat,iG c.gates]
def gaC(l:List Ga):List V:=l.flatMap fun g=>[.str g.name,vi g.op,aN g.ins,aN g.rows,.bool g.off]
def laC(l:List La):List V:=l.flatMap fun q=>[.str q.name,.str q.next,vi q.init]
theorem IP:∀l:List La,V.dats (laC l)=true
 |[]=>rfl
 |t::l=>by show(V.dat (.str t.name)&&(V.dat (.str t.next)&&(V.dat (vi t.init)&&V.dats (laC l))))=true;rw[IP l];rfl
theorem TQ:∀l:List La,bZ 3 (l.map La.v)=true
 |[]=>rfl
 |t::l=>by show(_&&bZ 3 (l.map La.v))=true;rw[TQ l];rfl
theorem UZ:∀l:List La,(l.map La.v).flatMap V.vc=laC l
 |[]=>rfl
 |t::l=>by show V.vc (La.v t)++(l.map La.v).flatMap V.vc=_;rw[UZ l];rfl
theorem x9[MO]{h:H}{id len cap:Nat}{l:List La}(hc:h[id]? =some (.cells (laC l)))(hl:len=l.length):aG TE h (.ls id 3 0 len cap) (kG l) :=
 aG.ls hc (ay.dat (IP l)) (TQ l) (UZ l) (by rw[zra];exact hl)
theorem IQ:∀l:List Ga,V.dats (gaC l)=true
 |[]=>rfl
 |t::l=>by show(V.dat (.str t.name)&&(V.dat (vi t.op)&&(V.dat (aN t.ins)&&(V.dat (aN t.rows)&&(V.dat (.bool t.off)&&V.dats (gaC l))))))=true;rw[IQ l];simp only[V.dat,ax,zre]
theorem lC:∀l:List Ga,V.dats (l.map Ga.v)=true
 |[]=>rfl
 |t::l=>by show(V.dat (Ga.v t)&&V.dats (l.map Ga.v))=true;rw[lC l];simp only[V.dat,V.dats,ax,zre]
theorem lD:∀l:List La,V.dats (l.map La.v)=true
 |[]=>rfl
 |t::l=>by show(V.dat (La.v t)&&V.dats (l.map La.v))=true;rw[lD l];rfl
theorem GU:∀l:List Tk,V.dats (l.map Tk.v)=true
 |[]=>rfl
 |t::l=>by show(V.dat (Tk.v t)&&V.dats (l.map Tk.v))=true;rw[GU l];rfl
theorem vJ(c:Ci):V.dat c.v=true:=by simp only[Ci.v,V.dat,V.dats,ax,lD,lC,zre]
theorem TR:∀l:List Ga,bZ 5 (l.map Ga.v)=true
 |[]=>rfl
 |t::l=>by show(_&&bZ 5 (l.map Ga.v))=true;rw[TR l];rfl
theorem Xg:∀l:List Ga,(l.map Ga.v).flatMap V.vc=gaC l
 |[]=>rfl
 |t::l=>by show V.vc (Ga.v t)++(l.map Ga.v).flatMap V.vc=_;rw[Xg l];rfl
theorem yc[MO]{h:H}{id len cap:Nat}{l:List Ga}(hc:h[id]? =some (.cells (gaC l)))(hl:len=l.length):aG TE h (.ls id 5 0 len cap) (iG l) :=
 aG.ls hc (ay.dat (IQ l)) (TR l) (Xg l) (by rw[zra];exact hl)
theorem IR{c:List Ga}{r:List V}(hb:V.bnds (iG c::r)):c.length<=maxLen:=by simp only[V.bnds,V.bnd,zra]at hb;exact hb.1.1
theorem Rf{c:List Tk}{r:List V}(hb:V.bnds (qZ c::r)):c.length<=maxLen:=by simp only[V.bnds,V.bnd,zra]at hb;exact hb.1.1
theorem NP{c:List S}{r:List V}(hb:V.bnds (aN c::r)):c.length<=maxLen:=by simp only[V.bnds,V.bnd,zra]at hb;exact hb.1.1
theorem sZ{c:List Ga}{i:Nat}(h:i<c.length)(d:V):(c.map Ga.v).getD i d=Ga.v c[i]:=fP h _
theorem Xh{c:List Tk}{i:Nat}(h:i<c.length)(d:V):(c.map Tk.v).getD i d=Tk.v c[i]:=fP h _
theorem GX{c:List La}{i:Nat}(h:i<c.length)(d:V):(c.map La.v).getD i d=La.v c[i]:=fP h _
theorem EH:∀l:S,fO (l.map vb)=some l
 |[]=>rfl
 |a::l=>by
  simp only[zrd,fO,EH l,zrw]
  congr 2
  exact UInt8.ofNat_toNat
theorem pW{h:H}{l:S}{k cap:Nat}(hc:h[k]? =some (.cells (l.map vb))):(ja P h 79 9 (.ls k 1 0 l.length cap)).1=True/\(ja P h 79 9 (.ls k 1 0 l.length cap)).2= .str l:=by
 have h1:dV h k=l.map vb:=by simp only[dV,hc]
 have h2:fO (((dV h k).drop 0).take l.length)=some l:=by rw[h1,List.drop_zero,zqh (by simp),EH]
 have h3:0+l.length<=(dV h k).length:=by rw[h1];simp
 unfold ja;simp only[tis,h2];exact⟨eq_true ⟨trivial,trivial,h3⟩,trivial⟩
theorem NQ[MO](c:List S)(q:FuncId)(caps:List V)(p:S->Bool)(he:ah P q=true)(hd:V.dats caps=true)(hq:∀x∈c,Ev TE q (.str x::caps) (.bool (p x))):Ev TE 209 [aN c,.fn (.func q) [] caps] (vi (idx c p)):=by
 refine Ev.bnd fun hb=> ?_;have hlen:=NP hb;refine ak Tryz.func209 rfl (by simp[nts]) (vm ?_);simp only[wq.1,seval,Tryz.results209];refine aC (fun m f h=>∃i,m+i=c.length/\f.t 0=aN c/\f.t 1= .fn (.func q) [] caps/\f.t 7= .int .i64 (c.length:Int)/\f.t 8= .int .i64 (i:Int)/\f.d=[]/\∀x∈c.take i,p x=false) c.length ⟨0,by simp,rfl,rfl,by simp only[wq.1,seval],rfl,rfl,by simp⟩ ?_;rintro m f h ⟨i,hm,h0,h1,h7,h8,hdd,hall⟩;refine vm ?_;simp only[wq.1,seval,h7,h8];refine vcB.mk (fun hc=> ?_) (fun hc=> ?_)
 ·simp only[zqb,zqi]at hc;simp only[wq.1,seval,h0,h1,h8,zW hc,he];refine⟨⟨by omega,by omega⟩,ag.ev (hq _ (zqu _)) (by simp[V.dats,V.dat,hd,ax]) ?_⟩;simp only[wq.1,seval];refine vcB.mk (fun hc'=> ?_) (fun hc'=> ?_)
  ·simp only[wq.1,seval,hdd];rw[BO hc hall hc'];exact aG.dat rfl
  ·simp only[wq.1,seval,h8,aB (show i<maxLen by omega)];exact .inl ⟨m-1,by omega,i+1,by omega,h0,h1,h7,rfl,hdd,bT hc hall hc'⟩
 ·simp only[zqd,zqi]at hc;simp only[wq.1,seval,hdd];rw[zqh (by omega)]at hall;rw[wM hall];exact aG.dat rfl
theorem GY[MO](c:List S)(q:FuncId)(caps:List V)(p:S->Bool)(he:ah P q=true)(hd:V.dats caps=true)(hq:∀x∈c,Ev TE q (.str x::caps) (.bool (p x))):Ev TE 155 [aN c,.fn (.func q) [] caps] (.bool (c.any p)):=by refine ak Tryz.func155 rfl (by simp[nts]) (vm ?_);simp only[wq.1,seval,Tryz.results155];refine ag.ev (NQ c q caps p he hd hq) (by simp[V.dats,V.dat,hd,ax]) ?_;simp only[wq.1,seval];exact aG.eq rfl (by rw[Nz])
theorem U0[MO](c:List Ga)(q:FuncId)(caps:List V)(p:Ga->Bool)(he:ah P q=true)(hd:V.dats caps=true)(hq:∀x∈c,Ev TE q (Ga.v x::caps) (.bool (p x))):Ev TE 166 [iG c,.fn (.func q) [] caps] (vi (idx c p)):=by
 refine Ev.bnd fun hb=> ?_;have hlen:=IR hb;refine ak Tryz.func166 rfl (by simp[nts]) (vm ?_);simp only[wq.1,seval,Tryz.results166];refine aC (fun m f h=>∃i,m+i=c.length/\f.t 0=iG c/\f.t 1= .fn (.func q) [] caps/\f.t 7= .int .i64 (c.length:Int)/\f.t 8= .int .i64 (i:Int)/\f.d=[]/\∀x∈c.take i,p x=false) c.length ⟨0,by simp,rfl,rfl,by simp only[wq.1,seval],rfl,rfl,by simp⟩ ?_;rintro m f h ⟨i,hm,h0,h1,h7,h8,hdd,hall⟩;refine vm ?_;simp only[wq.1,seval,h7,h8];refine vcB.mk (fun hc=> ?_) (fun hc=> ?_)
 ·simp only[zqb,zqi]at hc;simp only[wq.1,seval,h0,h1,h8,sZ hc,he];refine⟨⟨by omega,by omega⟩,ag.ev (hq _ (zqu _)) (by simp[V.dats,V.dat,hd,ax]) ?_⟩;simp only[wq.1,seval];refine vcB.mk (fun hc'=> ?_) (fun hc'=> ?_)
  ·simp only[wq.1,seval,hdd];rw[BO hc hall hc'];exact aG.dat rfl
  ·simp only[wq.1,seval,h8,aB (show i<maxLen by omega)];exact .inl ⟨m-1,by omega,i+1,by omega,h0,h1,h7,rfl,hdd,bT hc hall hc'⟩
 ·simp only[zqd,zqi]at hc;simp only[wq.1,seval,hdd];rw[zqh (by omega)]at hall;rw[wM hall];exact aG.dat rfl
theorem U1[MO](c:List Ga)(q:FuncId)(caps:List V)(p:Ga->Bool)(he:ah P q=true)(hd:V.dats caps=true)(hq:∀x∈c,Ev TE q (Ga.v x::caps) (.bool (p x))):Ev TE 103 [iG c,.fn (.func q) [] caps] (.bool (c.any p)):=by refine ak Tryz.func103 rfl (by simp[nts]) (vm ?_);simp only[wq.1,seval,Tryz.results103];refine ag.ev (U0 c q caps p he hd hq) (by simp[V.dats,V.dat,hd,lC]) ?_;simp only[wq.1,seval];exact aG.eq rfl (by rw[Nz])
theorem U2[MO](c:List Tk)(q:FuncId)(caps:List V)(p:Tk->Bool)(he:ah P q=true)(hd:V.dats caps=true)(hq:∀x∈c,Ev TE q (Tk.v x::caps) (.bool (p x))):Ev TE 70 [qZ c,.fn (.func q) [] caps] (vi (idx c p)):=by
 refine Ev.bnd fun hb=> ?_;have hlen:=Rf hb;refine ak Tryz.func70 rfl (by simp[nts]) (vm ?_);simp only[wq.1,seval,Tryz.results70];refine aC (fun m f h=>∃i,m+i=c.length/\f.t 0=qZ c/\f.t 1= .fn (.func q) [] caps/\f.t 7= .int .i64 (c.length:Int)/\f.t 8= .int .i64 (i:Int)/\f.d=[]/\∀x∈c.take i,p x=false) c.length ⟨0,by simp,rfl,rfl,by simp only[wq.1,seval],rfl,rfl,by simp⟩ ?_;rintro m f h ⟨i,hm,h0,h1,h7,h8,hdd,hall⟩;refine vm ?_;simp only[wq.1,seval,h7,h8];refine vcB.mk (fun hc=> ?_) (fun hc=> ?_)
 ·simp only[zqb,zqi]at hc;simp only[wq.1,seval,h0,h1,h8,Xh hc,he];refine⟨⟨by omega,by omega⟩,ag.ev (hq _ (zqu _)) (by simp[V.dats,V.dat,hd,ax]) ?_⟩;simp only[wq.1,seval];refine vcB.mk (fun hc'=> ?_) (fun hc'=> ?_)
  ·simp only[wq.1,seval,hdd];rw[BO hc hall hc'];exact aG.dat rfl
  ·simp only[wq.1,seval,h8,aB (show i<maxLen by omega)];exact .inl ⟨m-1,by omega,i+1,by omega,h0,h1,h7,rfl,hdd,bT hc hall hc'⟩
 ·simp only[zqd,zqi]at hc;simp only[wq.1,seval,hdd];rw[zqh (by omega)]at hall;rw[wM hall];exact aG.dat rfl
theorem Ac(cs:S):∀s:S,Lib.containsAny s cs=s.any (cs.contains ·)
 |[]=>rfl
 |c::s=>by
  have ih:=Ac cs s;have hg:=Lib.indexAny_ge cs s;unfold Lib.containsAny at ih ⊢;rw[List.any_cons,<-ih];show decide (0<=if cs.contains c then 0 else if Lib.indexAny s cs==-1 then -1 else Lib.indexAny s cs+1)=_;cases cs.contains c with
  |true=>rfl
  |false =>
   rw[if_neg (by decide),Bool.false_or];by_cases h:Lib.indexAny s cs=-1
   ·rw[h];rfl
   ·rw[if_neg (by simpa using h)];exact decide_eq_decide.2 (by omega)
theorem IU{s:S}(h:aS s=true):s.length<=40:=by unfold aS at h;simp only[zqf,zqb]at h;exact h.2.2
theorem Xi:∀n:Nat,((n:Nat):Int).fdiv (2^(min 4 IntKind.u8.bits))=((n/16:Nat):Int):=fun n=>by show((n:Nat):Int).fdiv 16=_;rw[Int.fdiv_eq_ediv_of_nonneg _ (by decide)];omega
theorem Xj:∀n:Nat,n<256->IntKind.u8.wrap ((BitVec.ofInt IntKind.u8.bits (n:Int) &&& BitVec.ofInt IntKind.u8.bits 15).toNat:Int)=((n%16:Nat):Int):=by decide +kernel
theorem EI{s:S}{i:Nat}(h:i<s.length):bg (s.take (i+1))=bg (s.take i)++QZ s[i]:=by unfold bg;rw[List.take_succ_eq_append_getElem h,List.flatMap_append,zqc];simp
theorem yf:∀s:S,(bg s).length=3+2*s.length:=fun s=>by
 unfold bg;have:∀s:S,(s.flatMap QZ).length=2*s.length:=fun s=>by
  induction s with
  |nil=>rfl
  |cons c s ih=>rw[List.flatMap_cons,zqa,ih];simp[QZ];omega
 rw[zqa,this];rfl
theorem Ky[MO](s:S)(hs:s.length<=1000000):Ev TE 148 [.str s] (.str (bg s)):=by
 have hM:=mLx;refine ak Tryz.func148 rfl (by simp[nts]) ?_;refine vn ?_;simp only[wq.1,seval,Tryz.results148];refine ai (iT ?_);refine GK rfl rfl rfl rfl rfl rfl (by decide) (by decide) (q:=⟨.slice 5,1,24,.nils⟩) (by simp only[wq.1]) rfl (re:=⟨.int .u8,1,1,.int .u8 0⟩) (by simp only[wq.1]) rfl rfl ?_;refine az rfl rfl ?_;simp only[wq.1,↓reduceIte];refine dX ?_;show awp _ _ _ _ _ _ _;refine vn ?_;simp only[wq.1,seval];refine aC (fun m f h=>∃i,m+i=s.length/\i<=s.length/\f.t 0= .str s/\f.t 3= .ls 0 1 0 (bg (s.take i)).length (bg (s.take i)).length/\f.t 8=vi s.length/\f.t 9=vi i/\f.d=[]/\h=[.cells ((bg (s.take i)).map vb)]) s.length ⟨0,rfl,by omega,by simp only[wq.1,seval],by simp only[wq.1,seval];rfl,by simp only[wq.1,seval],by simp only[wq.1,↓reduceIte];rfl,rfl,rfl⟩ ?_;rintro m f h ⟨i,hm,hil,h0,h3,h8,h9,hd,rfl⟩;have hw:=aB (show i<maxLen by omega);refine vn ?_;simp only[wq.1,Nat.reduceLT,h8,h9];refine vn ?_;simp only[wq.1,↓reduceIte];refine vcB.mk (fun hlt=> ?_) (fun hlt=> ?_)
 ·have hlt:i<s.length:=by have:=zqs hlt;omega
  obtain⟨c,hc⟩:∃c,c=s[i]:=⟨_,rfl⟩;have hgc:s.getD i 0=c:=by rw[hc];exact QQ hlt
  have hcl:=c.toNat_lt;have e1:=Xi c.toNat;have e2:=Xj c.toNat hcl;have hst:=EI hlt;rw[<-hc]at hst;have hsl:=yf (s.take i);have htl:(s.take i).length=i:=by rw[zrl];omega
  obtain⟨T,hT⟩:∃T,T=bg (s.take i):=⟨_,rfl⟩;rw[<-hT]at hst hsl h3 ⊢;have dv:∀p,V.drops p (T.map vb)=T.map vb:=fun p=>sO T;refine ai ?_;refine aA ?_;refine vn ?_;simp only[wq.1,↓reduceIte,Nat.reduceEqDiff,Nat.reduceLT,h9];refine Ef mixed 12 (.one 12<| .take 13<| .fin) (fun f' h'=>f'.t 0= .str s/\f'.t 3= .ls 0 1 0 (bg (s.take (i+1))).length (bg (s.take (i+1))).length/\f'.t 8=vi s.length/\f'.t 9=vi i/\f'.d=[]/\h'=[.cells ((bg (s.take (i+1))).map vb)]) (by rw[show TE.P=P from rfl];decide +kernel) ?_ ?_
  ·intro K hK;simp only[List.take_succ_cons,List.take_zero];have hx:∀k,([48,49,50,51,52,53,54,55,56,57,97,98,99,100,101,102]:S).getD k 0=QY k:=fun k=>rfl;simp only[wq.1,↓reduceIte,Nat.reduceEqDiff,Nat.reduceLT,Nat.reduceLeDiff,Nat.reduceAdd,Int.reduceToNat,Int.reduceLE,reduceCtorEq,Nat.reduceMul,h0,h3,hgc,e1,e2,hx];refine⟨⟨by omega,by omega⟩,⟨by omega,by omega⟩,⟨by omega,by omega⟩,⟨by omega,by omega⟩,⟨rfl,by decide⟩,hK _ ?_⟩;simp only[wq.1,seval,h0,h8,h9,hd,dv];have hmap:T.map vb++[vb (QY (c.toNat/16)),vb (QY (c.toNat%16))]=(bg (s.take (i+1))).map vb:=by rw[hst,zql];rfl
   have hlen:T.length+2=(bg (s.take (i+1))).length:=by rw[hst,zqa];rfl
   refine⟨⟨by omega,by omega,by omega⟩,by rw[hlen],?_⟩;rw[<-hmap]
  ·rintro f h ⟨h0,h3,h8,h9,hd,rfl⟩;show awp _ _ _ _ _ _ _;refine vm ?_;simp only[wq.1,seval,h9,hw];exact .inl ⟨m-1,by omega,i+1,by omega,by omega,by simp only[wq.1,seval,h0],by simp only[wq.1,seval,h3],by simp only[wq.1,seval,h8],by simp only[wq.1,↓reduceIte],by simp only[wq.1,hd],rfl⟩
 ·have hi:i=s.length:=by have:=of_decide_eq_false hlt;omega
  rw[hi,zrx]at h3 ⊢;obtain⟨e1,e2⟩:=pW (h:=[.cells ((bg s).map vb)]) (l:=bg s) (k:=0) (cap:=(bg s).length) rfl;have hsl:=yf s;refine vm ?_;simp only[wq.1,seval,h3,hd,e1,e2];exact aG.dat rfl
theorem U3[MO](s p:S)(hs:s.length<=1000000):Ev TE 250 [.str s,.str p] (.tup [.str (if p.isPrefixOf s=true then s.drop p.length else s),.bool (p.isPrefixOf s)]):=by
 have h:=EF s p;have h2:Ev TE 274 [.str s,.str p] (.tup [.str (if p.isPrefixOf s=true then s.drop p.length else s),.bool (p.isPrefixOf s)]):=by
  have hpl:p.isPrefixOf s=true->p.length<=s.length:=fun h=>(List.isPrefixOf_iff_prefix.1 h).length_le;refine ak Tryz.func274 rfl (by simp[nts]) (vm ?_);simp only[wq.1,seval,Tryz.results274];refine ag.ev h rfl ?_;cases hp:p.isPrefixOf s with
  |true=>have:=hpl hp;simp only[wq.1,seval];exact⟨by omega,aG.dat rfl⟩
  |false=>simp only[wq.1,seval];exact aG.dat rfl
 refine ak Tryz.func250 rfl (by simp[nts]) (vm ?_);simp only[wq.1,seval,Tryz.results250];refine ag.ev h2 rfl ?_;simp only[wq.1,seval];exact aG.dat rfl
theorem NT:∀n:Nat,n<256->Lib.indexByte WX (UInt8.ofNat n)=zg (UInt8.ofNat n)/\-1<=zg (UInt8.ofNat n)/\zg (UInt8.ofNat n)<=15:=by decide +kernel
theorem U4(n:Int)(h0:-17<=n)(h1:n<=255):V.int .u8 (IntKind.u8.wrap n)=vb (UInt8.ofNat (n%256).toNat):=by
 have:∀k:Nat,k<273->IntKind.u8.wrap ((k:Int)-17)=((UInt8.ofNat (((k:Int)-17)%256).toNat).toNat:Int):=by decide +kernel
 have h:=this (n+17).toNat (by omega);have e:(((n+17).toNat:Nat):Int)-17=n:=by omega
 rw[e]at h;rw[h]
theorem EJ[MO](s:S)(hs:s.length<=1000000):Ev TE 190 [.str s] (.str (bH s)):=by
 have hM:=mLx;have hcp:=U3 s qA hs;obtain⟨u,hu⟩:∃u,u=if qA.isPrefixOf s=true then s.drop 3 else s:=⟨_,rfl⟩
 have hul:u.length<=1000000:=by
  rw[hu];split
  ·rw[List.length_drop];omega
  ·exact hs
 have hV:bH s=jX u:=by unfold bH;rw[hu]
 rw[show qA.length=3 from rfl,<-hu]at hcp;rw[hV];refine ak Tryz.func190 rfl (by simp[nts]) ?_;refine vn ?_;simp only[wq.1,seval,Tryz.results190];refine vn ?_;simp only[wq.1,Nat.reduceLT];refine gV 3 1 (by simp only[wq.1,↓reduceIte]) ?_;refine vn ?_;simp only[wq.1,seval];refine ag.ev hcp rfl ?_;simp only[wq.1,seval];refine vn ?_;simp only[wq.1];refine aC (fun m f h=>∃(r b:S),m=r.length/\r.length<=u.length/\jX u=b++jX r/\b.length<=u.length-r.length/\f.t 4= .str r/\f.t 3= .ls 0 1 0 b.length b.length/\f.d=[]/\h=[.cells (b.map vb)]) u.length ⟨u,[],rfl,zrb _,rfl,by simp,by simp only[wq.1,seval],by simp only[wq.1,seval],rfl,rfl⟩ ?_;rintro m f h ⟨r,b,rfl,hru,hub,hbl,h4,h3,hd,rfl⟩;refine vn ?_;simp only[wq.1,seval,h4];refine vcB.mk (fun hlt=> ?_) (fun hlt=> ?_)
 ·obtain⟨x,y,r,rfl⟩:∃x y r',r=x::y::r':=by
   have:=zqs hlt
   match r,this with
   |x::y::r',_=>exact⟨x,y,r',rfl⟩
   |[x],h=>simp at h
   |[],h=>simp at h
  have i1:=EC WX x.toNat x.toNat_lt;have i2:=EC WX y.toNat y.toNat_lt;obtain⟨p1,p2,p3⟩:=NT x.toNat x.toNat_lt;obtain⟨q1,q2,q3⟩:=NT y.toNat y.toNat_lt;rw[UInt8.ofNat_toNat]at i1 p1 p2 p3;rw[UInt8.ofNat_toNat]at i2 q1 q2 q3;rw[p1]at i1;rw[q1]at i2;have w1:IntKind.i64.wrap (zg x*16)=zg x*16:=iL (by omega) (by omega);have w2:IntKind.i64.wrap (zg x*16+zg y)=zg x*16+zg y:=iL (by omega) (by omega);have w3:=U4 (zg x*16+zg y) (by omega) (by omega);have hun:jX u=(b++[UInt8.ofNat ((zg x*16+zg y)%256).toNat])++jX r:=by rw[hub];simp[jX]
  have dv:∀p,V.drops p (b.map vb)=b.map vb:=fun p=>sO b;simp only[zrt]at hru hbl;refine ai ?_;refine aA ?_;refine vn ?_;simp only[wq.1,seval,h4];refine⟨by decide +kernel,by omega,uw.mk i1 rfl rfl ?_⟩;simp only[wq.1,seval,h4];refine⟨by omega,uw.mk i2 rfl rfl ?_⟩;simp only[wq.1,↓reduceIte,Nat.reduceEqDiff,Nat.reduceLT,w1,w2];obtain⟨B,hB⟩:∃B,B=UInt8.ofNat ((zg x*16+zg y)%256).toNat:=⟨_,rfl⟩;rw[<-hB]at hun w3;have hcv:ja P [.cells (b.map vb)] 3 5 (vi (zg x*16+zg y))=(True,vb B):=by rw[<-w3];unfold ja;simp only[tis]
  have hdr:(x::y::r).drop 2=r:=rfl;refine vm ?_;simp only[wq.1,↓reduceIte,Nat.reduceEqDiff,Nat.reduceLT,reduceCtorEq,Nat.reduceMul,h3,hd,hcv,dv];refine⟨⟨rfl,by decide⟩,⟨by omega,by omega,by omega⟩,?_⟩;refine vm ?_;simp only[wq.1,seval,h4];refine⟨by omega,.inl ⟨r.length,by omega,r,b++[B],rfl,by omega,hun,by simp;omega,by simp only[wq.1,↓reduceIte],by simp only[wq.1,seval],by simp only[wq.1,hd],by simp⟩⟩
 ·have hlt2:r.length<2:=by have:=of_decide_eq_false hlt;omega
  have hur:jX r=[]:=by
   match r,hlt2 with
   |[],_=>rfl
   |[_],_=>rfl
   |_::_::_,h=>simp only[zrt]at h;omega
  rw[hur,zqp]at hub;obtain⟨e1,e2⟩:=pW (h:=[.cells (b.map vb)]) (l:=b) (k:=0) (cap:=b.length) rfl;rw[hub];refine vm ?_;simp only[wq.1,seval,h3,hd,e1,e2];exact aG.dat rfl
theorem NU[MO](op:Int)(n:Nat)(hn:n<=maxLen):Ev TE 87 [vi op,vi n] (.bool (uJ op n)):=by
 have hm:=MO.ins op (.agg [vi 0,vi 0]);by_cases hr:0<=op/\op<=10
 ·rw[if_pos hr]at hm;obtain⟨k,rfl⟩:∃k:Nat,op=k:=⟨op.toNat,by omega⟩;have hk:k<=10:=by omega
  have hv:uJ (k:Int) n=(decide ((n:Int)>=if(k:Int)<=1 then 0 else if(k:Int)<=3 then 1 else if(k:Int)<=9 then 2 else 0)&&decide ((n:Int)<=if(k:Int)<=1 then 0 else if(k:Int)<=3 then 1 else 8)):=by
   unfold uJ;rw[decide_eq_true (by omega),decide_eq_true (by omega),zsg,Bool.true_and,Bool.true_and];have:k=0\/k=1\/k=2\/k=3\/k=4\/k=5\/k=6\/k=7\/k=8\/k=9\/k=10:=by omega
   rw[Bool.eq_iff_iff];rcases this with rfl|rfl|rfl|rfl|rfl|rfl|rfl|rfl|rfl|rfl|rfl<;>simp[Lh]<;>omega
  rw[hv];refine ak Tryz.func87 rfl (by simp[nts]) (vm ?_);simp only[wq.1,↓reduceIte,Nat.reduceEqDiff,Nat.reduceLT,Nat.reduceLeDiff,Nat.reduceAdd,Int.reduceToNat,Int.reduceLE,reduceCtorEq,Nat.reduceMul,Tryz.results87,gl1,iQ,hm];exact⟨by decide,fun _=>by decide,aG.dat rfl⟩
 ·rw[if_neg hr]at hm;have hv:uJ op n=false:=by
   unfold uJ;by_cases h0:0<=op
   ·rw[decide_eq_false (show ¬op<=10 by omega)];simp
   ·rw[decide_eq_false h0];rfl
  rw[hv];refine ak Tryz.func87 rfl (by simp[nts]) (vm ?_);simp only[wq.1,seval,Tryz.results87,gl1,iQ,hm];exact aG.dat rfl
theorem yg{p:UInt8->Bool}:∀l:S,l.dropWhile p=[]↔∀x∈l,p x=true
 |[]=>by simp
 |a::l=>by
  rw[List.dropWhile_cons];cases h:p a with
  |true=>rw[if_pos rfl,yg l];simp[h]
  |false=>rw[if_neg (by decide)];simp[h]
theorem Ad{p:UInt8->Bool}:∀ {l:S} {a:UInt8} {r:S},l.dropWhile p=a::r->p a=false
 |b::l,a,r,h=>by
  rw[List.dropWhile_cons]at h;split at h
  ·exact Ad h
  ·rename_i hb;injection h with h1 _;subst h1;simpa using hb
theorem Rh(s cs:S):(Lib.trimS s cs=[])↔∀x∈s,cs.contains x=true:=by
 unfold Lib.trimS Lib.trimLeftS Lib.trimRightS;rw[yg];constructor
 ·intro h;cases hd:s.reverse.dropWhile (cs.contains ·)with
  |nil=>exact fun x hx=>(yg _).1 hd x (List.mem_reverse.2 hx)
  |cons a r=>exfalso;have ha:=Ad hd;have:=h a (by rw[hd];simp);rw[this]at ha;cases ha
 ·intro h x hx;exact h x (List.mem_reverse.1 ((List.dropWhile_sublist _).mem (List.mem_reverse.1 hx)))
theorem IV(n:Nat)(s:S):(((s.length:Int)==(n:Int))&&Lib.trimS s [48,49,45]==[])=ng n s:=by
 unfold ng
 congr 1
 ·rw[Bool.eq_iff_iff,beq_iff_eq,beq_iff_eq];omega
 ·rw[Bool.eq_iff_iff,beq_iff_eq,Rh,zrs];refine forall_congr' fun x=>forall_congr' fun _=> ?_;rw[List.contains_iff_mem];unfold Yz;simp[or_assoc]
theorem U5[MO](s:S)(n:Nat):Ev TE 170 [.str s,vi n] (.bool (ng n s)):=by have ht:=BZ s [48,49,45] (by decide) (by decide);rw[<-IV];refine ak Tryz.func170 rfl (by simp[nts]) (vm ?_);simp only[wq.1,seval,Tryz.results170];refine Gf.ev (q:=154) (vs:=[.str s,.str [48,49,45]]) (by simp only[wq.1,seval]) (by simp only[wq.1,seval]) rfl (fun _=>ht) (fun _=>rfl) ?_;simp only[wq.1,seval];exact aG.eq rfl rfl
theorem NV[MO](s:S)(g:Ga):Ev TE 169 [.str s,.ip g.v] (.bool (!ng g.ins.length s)):=by have hr:=U5 s g.ins.length;refine ak Tryz.func169 rfl (by simp[nts]) (vm ?_);simp only[wq.1,seval,Tryz.results169];refine ag.ev hr rfl ?_;simp only[wq.1,seval];exact aG.eq rfl rfl
theorem TT{g:Ga}{r:List V}(hb:V.bnds (g.v::r)):g.ins.length<=maxLen/\g.rows.length<=maxLen:=by simp only[V.bnds,V.bnd,zra]at hb;exact⟨hb.1.2.2.1.1,hb.1.2.2.2.1.1⟩
theorem Ri[MO](g:Ga):Ev TE 107 [g.v] (.bool (jo g)):=by
 refine Ev.bnd fun hb=> ?_;obtain⟨hl1,hl2⟩:=TT hb;have hh:=NU g.op g.ins.length hl1;have hct:=GY g.rows 169 [.ip g.v] (fun r=> !ng g.ins.length r) rfl (by simp only[V.dats,V.dat,ax,zre]) fun r _=>NV r g;have e1:(g.op != 10&&(decide ((0:Int)<(g.rows.length:Int))||g.off))= !(g.op==10||(g.rows.isEmpty&& !g.off)):=by
  have:decide ((0:Int)<(g.rows.length:Int))= !g.rows.isEmpty:=by cases g.rows<;>simp
  rw[this,bne];cases g.op==10<;>cases g.rows.isEmpty<;>cases g.off<;>rfl
 have e2:g.rows.any (fun r=> !ng g.ins.length r)= !g.rows.all (ng g.ins.length):=by rw[List.not_all_eq_any_not]
 rw[e2]at hct;refine ak Tryz.func107 rfl (by simp[nts]) (vm ?_);simp only[wq.1,seval,Tryz.results107];refine⟨fun h=>⟨h,fun h2=>by rw[h,h2];rfl⟩,vcB.mk (fun hc=> ?_) (fun hc=> ?_)⟩
 ·rw[e1]at hc;have hg:jo g=false:=by
   unfold jo;rw[Bool.not_eq_true']at hc;rw[hc,Bool.false_and]
  rw[hg];simp only[wq.1,seval];exact aG.dat rfl
 ·rw[e1]at hc;have hg:jo g=(uJ g.op g.ins.length&&(decide (g.rows.length<=128)&&g.rows.all (ng g.ins.length))):=by
   unfold jo;rw[Bool.not_eq_false']at hc;rw[hc,Bool.true_and]
  have e3:decide ((g.rows.length:Int)<=128)=decide (g.rows.length<=128):=decide_eq_decide.2 (by omega);rw[hg];simp only[wq.1,seval];refine ag.ev hh rfl ?_;cases uJ g.op g.ins.length with
  |false=>simp only[wq.1,seval];refine⟨.bool true,?_⟩;simp only[wq.1];exact aG.dat rfl
  |true =>
   cases h128:decide (g.rows.length<=128)with
   |false=>rw[h128]at e3;simp only[wq.1,seval,e3];refine⟨.bool true,?_⟩;simp only[wq.1];exact aG.dat rfl
   |true=>rw[h128]at e3;simp only[wq.1,seval,e3];refine ag.lend hct (ay.cons (aG.dat (by simp only[V.dat,ax])) (ay.cons (aG.fn ay.nil (ay.cons (aG.lp rfl (ay.dat (by simp only[V.dats,V.dat,ax,zre])) rfl (by simp only[V.dat,V.dats,ax,zre]) (by simp[V.vc]) rfl) ay.nil)) ay.nil)) rfl ?_;simp only[wq.1,seval];exact aG.eq rfl (by rw[Bool.not_not])
theorem NW{l:List S}{r:List V}(hb:V.bnds (aN l::r)):l.length<=maxLen:=by simp only[V.bnds,V.bnd,zra]at hb;exact hb.1.1
theorem U6[MO](a b:List S):Ev TE 54 [aN a,aN b] (.bool (a==b)):=by
 refine Ev.bnd fun hb=> ?_;have hlen:=NW hb;refine ak Tryz.func54 rfl (by simp[nts]) (vm ?_);simp only[wq.1,seval,Tryz.results54];refine vcB.mk (fun hc=> ?_) (fun hc=> ?_)
 ·simp only[wq.1,seval];refine aG.eq rfl ?_;simp only[bne_iff_ne,ne_eq,Int.natCast_inj]at hc;have:¬a=b:=fun h=>hc (by rw[h]);simp[this]
 ·have hl:a.length=b.length:=by simpa [Int.natCast_inj]using hc
  simp only[wq.1,seval];refine aC (fun m f h=>∃i,m+i=a.length/\f.t 0=aN a/\f.t 1=aN b/\f.t 12= .int .i64 (a.length:Int)/\f.t 13= .int .i64 (i:Int)/\f.d=[]/\a.take i=b.take i) a.length ⟨0,by simp,rfl,rfl,rfl,rfl,rfl,by simp⟩ ?_;rintro m f h ⟨i,hm,h0,h1,h12,h13,hd,hall⟩;refine vm ?_;simp only[wq.1,seval,h12,h13];refine vcB.mk (fun hc=> ?_) (fun hc=> ?_)
  ·simp only[zqb,zqi]at hc;have hc2:i<b.length:=by omega
   simp only[wq.1,seval,h0,h1,h13,zW hc,zW hc2];refine⟨by decide +kernel,⟨by omega,by omega⟩,⟨by omega,by omega⟩,vcB.mk (fun hc=> ?_) (fun hc=> ?_)⟩
   ·simp only[wq.1,seval,hd];refine aG.eq rfl ?_;have:¬a=b:=fun h=>by subst h;simp at hc
    simp[this]
   ·simp only[wq.1,seval,h13,aB (show i<maxLen by omega)];exact .inl ⟨m-1,by omega,i+1,by omega,h0,h1,h12,rfl,hd,Ny hall (by omega) (by omega) (by simpa using hc)⟩
  ·simp only[zqd,zqi]at hc;simp only[wq.1,seval,hd];refine aG.eq rfl ?_;rw[zqh (by omega),zqh (by omega)]at hall;simp[hall]
end Go.Proofs.YthaijohbpdabfaaGreatDoor
