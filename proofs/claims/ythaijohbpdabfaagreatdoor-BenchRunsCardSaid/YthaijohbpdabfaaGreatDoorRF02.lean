/- Lemmas for this claim, part F02: each holds under what it names. -/
import Derived.Test.YthaijohbpdabfaaGreatDoorRF01
import Derived.Shelf.Strings.Count
import Derived.Shelf.Strings.LastIndex
import Derived.Shelf.Small.Strs
import Derived.Shelf.Strings.Repeat
import Derived.Shelf.Strings.SlTrimAscii
import Derived.Shelf.Strings.IndexAnyAll
import Derived.Shelf.Strings.Search3
import Derived.Shelf.Strings.OnBuilder
import Derived.Shelf.Strconv.Itoa3
import Derived.Shelf.LaysM
import Derived.Shelf.LaysC
import Derived.Test.YthaijohbpdabfaaGreatDoorRA9
import Derived.Test.YthaijohbpdabfaaGreatDoorRA8
set_option linter.all false
set_option maxRecDepth 20000
set_option maxHeartbeats 1000000
namespace Go.Proofs.YthaijohbpdabfaaGreatDoor
open Go Go.Proofs Go.Abs Go.RowKit Go.Shelf Go.Lib
open List renaming length → aa, replicate → ao
open Bool renaming true → ab, false → ac
open Option renaming some → al, none → aq
open Decidable renaming decide → ar
open Go.IntKind renaming wrap → aD
open Go.Result renaming andThen → aM
open Go.Abs.O renaming cells → am
open Go.Abs.V renaming drops → ap, dat → aE, dats → aL
def FQ:Go.Shelf.Ren:=⟨fun|137=>251|217=>275|266=>284|n=>n,fun|9=>9|5=>5|3=>3|n=>n,fun|n=>n⟩
theorem Nj[MO]:Go.Proofs.Lays.n137 Tryz.prog FQ where
 mixed:=by kernel_rfl
 f137:=Tryz.func251.trans (congrArg al (by kernel_rfl))
 f217:=Tryz.func275.trans (congrArg al (by kernel_rfl))
 f266:=Tryz.func284.trans (congrArg al (by kernel_rfl))
 t3:=Tryz.underlying3
 a3:=Tryz.isAgg3
 z3:=Tryz.sizeOf3
 v3:=Tryz.zeroValue3
 t5:=Tryz.underlying5
 a5:=Tryz.isAgg5
 z5:=Tryz.sizeOf5
 v5:=Tryz.zeroValue5
 t9:=Tryz.underlying9
 a9:=Tryz.isAgg9
 z9:=Tryz.sizeOf9
 v9:=Tryz.zeroValue9
def Ut:Go.Shelf.Ren:=⟨fun|138=>181|195=>243|218=>244|143=>245|219=>271|217=>275|225=>280|224=>281|267=>282|266=>284|314=>290|n=>n,fun|9=>9|3=>3|4=>4|5=>5|0=>0|46=>156|146=>311|51=>310|n=>n,fun|1=>7|n=>n⟩
theorem Zi[MO]:Go.Proofs.Lays.n138 Tryz.prog Ut where
 mixed:=by kernel_rfl
 f138:=Tryz.func181.trans (congrArg al (by kernel_rfl))
 f143:=Tryz.func245.trans (congrArg al (by kernel_rfl))
 f195:=Tryz.func243.trans (congrArg al (by kernel_rfl))
 f217:=Tryz.func275.trans (congrArg al (by kernel_rfl))
 f218:=Tryz.func244.trans (congrArg al (by kernel_rfl))
 f219:=Tryz.func271.trans (congrArg al (by kernel_rfl))
 f224:=Tryz.func281.trans (congrArg al (by kernel_rfl))
 f225:=Tryz.func280.trans (congrArg al (by kernel_rfl))
 f266:=Tryz.func284.trans (congrArg al (by kernel_rfl))
 f267:=Tryz.func282.trans (congrArg al (by kernel_rfl))
 f314:=Tryz.func290.trans (congrArg al (by kernel_rfl))
 t0:=Tryz.underlying0
 a0:=Tryz.isAgg0
 z0:=Tryz.sizeOf0
 v0:=Tryz.zeroValue0
 t3:=Tryz.underlying3
 a3:=Tryz.isAgg3
 z3:=Tryz.sizeOf3
 v3:=Tryz.zeroValue3
 t4:=Tryz.underlying4
 a4:=Tryz.isAgg4
 z4:=Tryz.sizeOf4
 v4:=Tryz.zeroValue4
 t5:=Tryz.underlying5
 a5:=Tryz.isAgg5
 z5:=Tryz.sizeOf5
 v5:=Tryz.zeroValue5
 t9:=Tryz.underlying9
 a9:=Tryz.isAgg9
 z9:=Tryz.sizeOf9
 v9:=Tryz.zeroValue9
 t46:=Tryz.underlying156
 a46:=Tryz.isAgg156
 z46:=Tryz.sizeOf156
 v46:=Tryz.zeroValue156
 t51:=Tryz.underlying310
 a51:=Tryz.isAgg310
 z51:=Tryz.sizeOf310
 v51:=Tryz.zeroValue310
 t146:=Tryz.underlying311
 a146:=Tryz.isAgg311
 z146:=Tryz.sizeOf311
 v146:=Tryz.zeroValue311
 g1:=by kernel_rfl
def FT:Go.Shelf.Ren:=⟨fun|148=>182|222=>246|223=>247|269=>272|n=>n,fun|9=>9|3=>3|4=>4|5=>5|146=>311|51=>310|46=>156|n=>n,fun|n=>n⟩
theorem Nk[MO]:Go.Proofs.Lays.n148 Tryz.prog FT where
 mixed:=by kernel_rfl
 f148:=Tryz.func182.trans (congrArg al (by kernel_rfl))
 f222:=Tryz.func246.trans (congrArg al (by kernel_rfl))
 f223:=Tryz.func247.trans (congrArg al (by kernel_rfl))
 f269:=Tryz.func272.trans (congrArg al (by kernel_rfl))
 t3:=Tryz.underlying3
 a3:=Tryz.isAgg3
 z3:=Tryz.sizeOf3
 v3:=Tryz.zeroValue3
 t4:=Tryz.underlying4
 a4:=Tryz.isAgg4
 z4:=Tryz.sizeOf4
 v4:=Tryz.zeroValue4
 t5:=Tryz.underlying5
 a5:=Tryz.isAgg5
 z5:=Tryz.sizeOf5
 v5:=Tryz.zeroValue5
 t9:=Tryz.underlying9
 a9:=Tryz.isAgg9
 z9:=Tryz.sizeOf9
 v9:=Tryz.zeroValue9
 t46:=Tryz.underlying156
 a46:=Tryz.isAgg156
 z46:=Tryz.sizeOf156
 v46:=Tryz.zeroValue156
 t51:=Tryz.underlying310
 a51:=Tryz.isAgg310
 z51:=Tryz.sizeOf310
 v51:=Tryz.zeroValue310
 t146:=Tryz.underlying311
 a146:=Tryz.isAgg311
 z146:=Tryz.sizeOf311
 v146:=Tryz.zeroValue311
def Xe:Go.Shelf.Ren:=⟨fun|160=>154|232=>203|231=>202|227=>204|234=>206|233=>205|236=>208|235=>207|228=>257|271=>260|151=>259|197=>258|120=>278|152=>277|260=>276|137=>251|119=>285|224=>281|225=>280|217=>275|266=>284|n=>n,fun|9=>9|4=>4|3=>3|5=>5|117=>271|116=>270|0=>0|124=>274|21=>21|105=>318|46=>156|119=>335|139=>338|138=>337|n=>n,fun|3=>8|4=>9|n=>n⟩
theorem zai[MO]:Go.Proofs.Lays.n160 Tryz.prog Xe where
 mixed:=by kernel_rfl
 f119:=Tryz.func285.trans (congrArg al (by kernel_rfl))
 f120:=Tryz.func278.trans (congrArg al (by kernel_rfl))
 f137:=Tryz.func251.trans (congrArg al (by kernel_rfl))
 f151:=Tryz.func259.trans (congrArg al (by kernel_rfl))
 f152:=Tryz.func277.trans (congrArg al (by kernel_rfl))
 f160:=Tryz.func154.trans (congrArg al (by kernel_rfl))
 f197:=Tryz.func258.trans (congrArg al (by kernel_rfl))
 f217:=Tryz.func275.trans (congrArg al (by kernel_rfl))
 f224:=Tryz.func281.trans (congrArg al (by kernel_rfl))
 f225:=Tryz.func280.trans (congrArg al (by kernel_rfl))
 f227:=Tryz.func204.trans (congrArg al (by kernel_rfl))
 f228:=Tryz.func257.trans (congrArg al (by kernel_rfl))
 f231:=Tryz.func202.trans (congrArg al (by kernel_rfl))
 f232:=Tryz.func203.trans (congrArg al (by kernel_rfl))
 f233:=Tryz.func205.trans (congrArg al (by kernel_rfl))
 f234:=Tryz.func206.trans (congrArg al (by kernel_rfl))
 f235:=Tryz.func207.trans (congrArg al (by kernel_rfl))
 f236:=Tryz.func208.trans (congrArg al (by kernel_rfl))
 f260:=Tryz.func276.trans (congrArg al (by kernel_rfl))
 f266:=Tryz.func284.trans (congrArg al (by kernel_rfl))
 f271:=Tryz.func260.trans (congrArg al (by kernel_rfl))
 t0:=Tryz.underlying0
 a0:=Tryz.isAgg0
 z0:=Tryz.sizeOf0
 v0:=Tryz.zeroValue0
 t3:=Tryz.underlying3
 a3:=Tryz.isAgg3
 z3:=Tryz.sizeOf3
 v3:=Tryz.zeroValue3
 t4:=Tryz.underlying4
 a4:=Tryz.isAgg4
 z4:=Tryz.sizeOf4
 v4:=Tryz.zeroValue4
 t5:=Tryz.underlying5
 a5:=Tryz.isAgg5
 z5:=Tryz.sizeOf5
 v5:=Tryz.zeroValue5
 t9:=Tryz.underlying9
 a9:=Tryz.isAgg9
 z9:=Tryz.sizeOf9
 v9:=Tryz.zeroValue9
 t21:=Tryz.underlying21
 a21:=Tryz.isAgg21
 z21:=Tryz.sizeOf21
 v21:=Tryz.zeroValue21
 t46:=Tryz.underlying156
 a46:=Tryz.isAgg156
 z46:=Tryz.sizeOf156
 v46:=Tryz.zeroValue156
 t105:=Tryz.underlying318
 a105:=Tryz.isAgg318
 z105:=Tryz.sizeOf318
 v105:=Tryz.zeroValue318
 t116:=Tryz.underlying270
 a116:=Tryz.isAgg270
 z116:=Tryz.sizeOf270
 t117:=Tryz.underlying271
 a117:=Tryz.isAgg271
 z117:=Tryz.sizeOf271
 v117:=Tryz.zeroValue271
 t119:=Tryz.underlying335
 a119:=Tryz.isAgg335
 z119:=Tryz.sizeOf335
 t124:=Tryz.underlying274
 a124:=Tryz.isAgg274
 z124:=Tryz.sizeOf274
 v124:=Tryz.zeroValue274
 t138:=Tryz.underlying337
 a138:=Tryz.isAgg337
 z138:=Tryz.sizeOf337
 v138:=Tryz.zeroValue337
 t139:=Tryz.underlying338
 a139:=Tryz.isAgg338
 z139:=Tryz.sizeOf338
 v139:=Tryz.zeroValue338
 g3:=by kernel_rfl
 g4:=by kernel_rfl
def AV:Go.Shelf.Ren:=⟨fun|150=>249|153=>273|152=>277|226=>283|227=>204|228=>257|137=>251|119=>285|224=>281|225=>280|217=>275|266=>284|n=>n,fun|9=>9|4=>4|3=>3|5=>5|21=>21|117=>271|116=>270|0=>0|46=>156|124=>274|n=>n,fun|n=>n⟩
theorem FU[MO]:Go.Proofs.Lays.n150 Tryz.prog AV where
 mixed:=by kernel_rfl
 f119:=Tryz.func285.trans (congrArg al (by kernel_rfl))
 f137:=Tryz.func251.trans (congrArg al (by kernel_rfl))
 f150:=Tryz.func249.trans (congrArg al (by kernel_rfl))
 f152:=Tryz.func277.trans (congrArg al (by kernel_rfl))
 f153:=Tryz.func273.trans (congrArg al (by kernel_rfl))
 f217:=Tryz.func275.trans (congrArg al (by kernel_rfl))
 f224:=Tryz.func281.trans (congrArg al (by kernel_rfl))
 f225:=Tryz.func280.trans (congrArg al (by kernel_rfl))
 f226:=Tryz.func283.trans (congrArg al (by kernel_rfl))
 f227:=Tryz.func204.trans (congrArg al (by kernel_rfl))
 f228:=Tryz.func257.trans (congrArg al (by kernel_rfl))
 f266:=Tryz.func284.trans (congrArg al (by kernel_rfl))
 t0:=Tryz.underlying0
 a0:=Tryz.isAgg0
 z0:=Tryz.sizeOf0
 v0:=Tryz.zeroValue0
 t3:=Tryz.underlying3
 a3:=Tryz.isAgg3
 z3:=Tryz.sizeOf3
 v3:=Tryz.zeroValue3
 t4:=Tryz.underlying4
 a4:=Tryz.isAgg4
 z4:=Tryz.sizeOf4
 v4:=Tryz.zeroValue4
 t5:=Tryz.underlying5
 a5:=Tryz.isAgg5
 z5:=Tryz.sizeOf5
 v5:=Tryz.zeroValue5
 t9:=Tryz.underlying9
 a9:=Tryz.isAgg9
 z9:=Tryz.sizeOf9
 v9:=Tryz.zeroValue9
 t21:=Tryz.underlying21
 a21:=Tryz.isAgg21
 z21:=Tryz.sizeOf21
 v21:=Tryz.zeroValue21
 t46:=Tryz.underlying156
 a46:=Tryz.isAgg156
 z46:=Tryz.sizeOf156
 v46:=Tryz.zeroValue156
 t116:=Tryz.underlying270
 a116:=Tryz.isAgg270
 z116:=Tryz.sizeOf270
 t117:=Tryz.underlying271
 a117:=Tryz.isAgg271
 z117:=Tryz.sizeOf271
 v117:=Tryz.zeroValue271
 t124:=Tryz.underlying274
 a124:=Tryz.isAgg274
 z124:=Tryz.sizeOf274
 v124:=Tryz.zeroValue274
def FV:Go.Shelf.Ren:=⟨fun|105=>151|212=>198|99=>147|165=>84|166=>39|170=>199|169=>42|263=>253|264=>254|206=>197|240=>83|241=>145|276=>144|277=>196|n=>n,fun|9=>9|3=>3|4=>4|20=>20|0=>0|46=>156|109=>265|5=>5|72=>81|76=>84|51=>310|146=>311|53=>313|148=>314|70=>78|37=>79|75=>83|127=>145|164=>215|80=>91|n=>n,fun|n=>n⟩
theorem Xf[MO]:Go.Proofs.Lays.n105 Tryz.prog FV where
 mixed:=by kernel_rfl
 f99:=Tryz.func147.trans (congrArg al (by kernel_rfl))
 f105:=Tryz.func151.trans (congrArg al (by kernel_rfl))
 f165:=Tryz.func84.trans (congrArg al (by kernel_rfl))
 f166:=Tryz.func39.trans (congrArg al (by kernel_rfl))
 f169:=Tryz.func42.trans (congrArg al (by kernel_rfl))
 f170:=Tryz.func199.trans (congrArg al (by kernel_rfl))
 f206:=Tryz.func197.trans (congrArg al (by kernel_rfl))
 f212:=Tryz.func198.trans (congrArg al (by kernel_rfl))
 f240:=Tryz.func83.trans (congrArg al (by kernel_rfl))
 f241:=Tryz.func145.trans (congrArg al (by kernel_rfl))
 f263:=Tryz.func253.trans (congrArg al (by kernel_rfl))
 f264:=Tryz.func254.trans (congrArg al (by kernel_rfl))
 f276:=Tryz.func144.trans (congrArg al (by kernel_rfl))
 f277:=Tryz.func196.trans (congrArg al (by kernel_rfl))
 t0:=Tryz.underlying0
 a0:=Tryz.isAgg0
 z0:=Tryz.sizeOf0
 v0:=Tryz.zeroValue0
 t3:=Tryz.underlying3
 a3:=Tryz.isAgg3
 z3:=Tryz.sizeOf3
 v3:=Tryz.zeroValue3
 t4:=Tryz.underlying4
 a4:=Tryz.isAgg4
 z4:=Tryz.sizeOf4
 v4:=Tryz.zeroValue4
 t5:=Tryz.underlying5
 a5:=Tryz.isAgg5
 z5:=Tryz.sizeOf5
 v5:=Tryz.zeroValue5
 t9:=Tryz.underlying9
 a9:=Tryz.isAgg9
 z9:=Tryz.sizeOf9
 v9:=Tryz.zeroValue9
 t20:=Tryz.underlying20
 a20:=Tryz.isAgg20
 z20:=Tryz.sizeOf20
 v20:=Tryz.zeroValue20
 t37:=Tryz.underlying79
 a37:=Tryz.isAgg79
 z37:=Tryz.sizeOf79
 v37:=Tryz.zeroValue79
 t46:=Tryz.underlying156
 a46:=Tryz.isAgg156
 z46:=Tryz.sizeOf156
 v46:=Tryz.zeroValue156
 t51:=Tryz.underlying310
 a51:=Tryz.isAgg310
 z51:=Tryz.sizeOf310
 v51:=Tryz.zeroValue310
 t53:=Tryz.underlying313
 a53:=Tryz.isAgg313
 z53:=Tryz.sizeOf313
 v53:=Tryz.zeroValue313
 t70:=Tryz.underlying78
 a70:=Tryz.isAgg78
 z70:=Tryz.sizeOf78
 v70:=Tryz.zeroValue78
 t72:=Tryz.underlying81
 a72:=Tryz.isAgg81
 z72:=Tryz.sizeOf81
 v72:=Tryz.zeroValue81
 t75:=Tryz.underlying83
 a75:=Tryz.isAgg83
 z75:=Tryz.sizeOf83
 v75:=Tryz.zeroValue83
 t76:=Tryz.underlying84
 a76:=Tryz.isAgg84
 z76:=Tryz.sizeOf84
 v76:=Tryz.zeroValue84
 t109:=Tryz.underlying265
 a109:=Tryz.isAgg265
 z109:=Tryz.sizeOf265
 v109:=Tryz.zeroValue265
 t127:=Tryz.underlying145
 a127:=Tryz.isAgg145
 z127:=Tryz.sizeOf145
 v127:=Tryz.zeroValue145
 t146:=Tryz.underlying311
 a146:=Tryz.isAgg311
 z146:=Tryz.sizeOf311
 v146:=Tryz.zeroValue311
 t148:=Tryz.underlying314
 a148:=Tryz.isAgg314
 z148:=Tryz.sizeOf314
 v148:=Tryz.zeroValue314
 t164:=Tryz.underlying215
 a164:=Tryz.isAgg215
 z164:=Tryz.sizeOf215
 v164:=Tryz.zeroValue215
def PO:Go.Shelf.Ren:=⟨fun|156=>40|165=>84|166=>39|169=>42|240=>83|241=>145|276=>144|277=>196|n=>n,fun|31=>23|9=>9|3=>3|4=>4|0=>0|20=>20|72=>81|76=>84|70=>78|37=>79|75=>83|127=>145|164=>215|5=>5|80=>91|n=>n,fun|n=>n⟩
theorem Zj[MO]:Go.Proofs.Lays.n156 Tryz.prog PO where
 mixed:=by kernel_rfl
 f156:=Tryz.func40.trans (congrArg al (by kernel_rfl))
 f165:=Tryz.func84.trans (congrArg al (by kernel_rfl))
 f166:=Tryz.func39.trans (congrArg al (by kernel_rfl))
 f169:=Tryz.func42.trans (congrArg al (by kernel_rfl))
 f240:=Tryz.func83.trans (congrArg al (by kernel_rfl))
 f241:=Tryz.func145.trans (congrArg al (by kernel_rfl))
 f276:=Tryz.func144.trans (congrArg al (by kernel_rfl))
 f277:=Tryz.func196.trans (congrArg al (by kernel_rfl))
 t0:=Tryz.underlying0
 a0:=Tryz.isAgg0
 z0:=Tryz.sizeOf0
 v0:=Tryz.zeroValue0
 t3:=Tryz.underlying3
 a3:=Tryz.isAgg3
 z3:=Tryz.sizeOf3
 v3:=Tryz.zeroValue3
 t4:=Tryz.underlying4
 a4:=Tryz.isAgg4
 z4:=Tryz.sizeOf4
 v4:=Tryz.zeroValue4
 t9:=Tryz.underlying9
 a9:=Tryz.isAgg9
 z9:=Tryz.sizeOf9
 v9:=Tryz.zeroValue9
 t20:=Tryz.underlying20
 a20:=Tryz.isAgg20
 z20:=Tryz.sizeOf20
 v20:=Tryz.zeroValue20
 t31:=Tryz.underlying23
 a31:=Tryz.isAgg23
 z31:=Tryz.sizeOf23
 v31:=Tryz.zeroValue23
 t37:=Tryz.underlying79
 a37:=Tryz.isAgg79
 z37:=Tryz.sizeOf79
 v37:=Tryz.zeroValue79
 t70:=Tryz.underlying78
 a70:=Tryz.isAgg78
 z70:=Tryz.sizeOf78
 v70:=Tryz.zeroValue78
 t72:=Tryz.underlying81
 a72:=Tryz.isAgg81
 z72:=Tryz.sizeOf81
 v72:=Tryz.zeroValue81
 t75:=Tryz.underlying83
 a75:=Tryz.isAgg83
 z75:=Tryz.sizeOf83
 v75:=Tryz.zeroValue83
 t76:=Tryz.underlying84
 a76:=Tryz.isAgg84
 z76:=Tryz.sizeOf84
 v76:=Tryz.zeroValue84
 t127:=Tryz.underlying145
 a127:=Tryz.isAgg145
 z127:=Tryz.sizeOf145
 v127:=Tryz.zeroValue145
 t164:=Tryz.underlying215
 a164:=Tryz.isAgg215
 z164:=Tryz.sizeOf215
 v164:=Tryz.zeroValue215
def Xg:Go.Shelf.Ren:=⟨fun|171=>223|243=>266|246=>279|283=>286|284=>287|285=>288|286=>289|129=>292|317=>291|318=>293|319=>294|320=>295|337=>296|338=>297|n=>n,fun|3=>3|9=>9|2=>2|4=>4|171=>339|0=>0|53=>313|37=>79|5=>5|173=>341|212=>344|51=>310|20=>20|213=>345|46=>156|232=>346|233=>347|n=>n,fun|17=>10|18=>11|19=>12|n=>n⟩
theorem zaj[MO]:Go.Proofs.LaysM.n171 Tryz.prog Xg where
 mixed:=by kernel_rfl
 f129:=Tryz.func292.trans (congrArg al (by kernel_rfl))
 f171:=Tryz.func223.trans (congrArg al (by kernel_rfl))
 f243:=Tryz.func266.trans (congrArg al (by kernel_rfl))
 f246:=Tryz.func279.trans (congrArg al (by kernel_rfl))
 f283:=Tryz.func286.trans (congrArg al (by kernel_rfl))
 f284:=Tryz.func287.trans (congrArg al (by kernel_rfl))
 f285:=Tryz.func288.trans (congrArg al (by kernel_rfl))
 f286:=Tryz.func289.trans (congrArg al (by kernel_rfl))
 f317:=Tryz.func291.trans (congrArg al (by kernel_rfl))
 f318:=Tryz.func293.trans (congrArg al (by kernel_rfl))
 f319:=Tryz.func294.trans (congrArg al (by kernel_rfl))
 f320:=Tryz.func295.trans (congrArg al (by kernel_rfl))
 f337:=Tryz.func296.trans (congrArg al (by kernel_rfl))
 f338:=Tryz.func297.trans (congrArg al (by kernel_rfl))
 t0:=Tryz.underlying0
 a0:=Tryz.isAgg0
 z0:=Tryz.sizeOf0
 v0:=Tryz.zeroValue0
 t2:=Tryz.underlying2
 a2:=Tryz.isAgg2
 z2:=Tryz.sizeOf2
 v2:=Tryz.zeroValue2
 t3:=Tryz.underlying3
 a3:=Tryz.isAgg3
 z3:=Tryz.sizeOf3
 v3:=Tryz.zeroValue3
 t4:=Tryz.underlying4
 a4:=Tryz.isAgg4
 z4:=Tryz.sizeOf4
 v4:=Tryz.zeroValue4
 t5:=Tryz.underlying5
 a5:=Tryz.isAgg5
 z5:=Tryz.sizeOf5
 v5:=Tryz.zeroValue5
 t9:=Tryz.underlying9
 a9:=Tryz.isAgg9
 z9:=Tryz.sizeOf9
 v9:=Tryz.zeroValue9
 t20:=Tryz.underlying20
 a20:=Tryz.isAgg20
 z20:=Tryz.sizeOf20
 v20:=Tryz.zeroValue20
 t37:=Tryz.underlying79
 a37:=Tryz.isAgg79
 z37:=Tryz.sizeOf79
 v37:=Tryz.zeroValue79
 t46:=Tryz.underlying156
 a46:=Tryz.isAgg156
 z46:=Tryz.sizeOf156
 v46:=Tryz.zeroValue156
 t51:=Tryz.underlying310
 a51:=Tryz.isAgg310
 z51:=Tryz.sizeOf310
 v51:=Tryz.zeroValue310
 t53:=Tryz.underlying313
 a53:=Tryz.isAgg313
 z53:=Tryz.sizeOf313
 v53:=Tryz.zeroValue313
 t171:=Tryz.underlying339
 a171:=Tryz.isAgg339
 z171:=Tryz.sizeOf339
 v171:=Tryz.zeroValue339
 t173:=Tryz.underlying341
 a173:=Tryz.isAgg341
 z173:=Tryz.sizeOf341
 v173:=Tryz.zeroValue341
 t212:=Tryz.underlying344
 a212:=Tryz.isAgg344
 z212:=Tryz.sizeOf344
 v212:=Tryz.zeroValue344
 t213:=Tryz.underlying345
 a213:=Tryz.isAgg345
 z213:=Tryz.sizeOf345
 t232:=Tryz.underlying346
 a232:=Tryz.isAgg346
 z232:=Tryz.sizeOf346
 v232:=Tryz.zeroValue346
 t233:=Tryz.underlying347
 a233:=Tryz.isAgg347
 z233:=Tryz.sizeOf347
 v233:=Tryz.zeroValue347
 g17:=by kernel_rfl
 g18:=by kernel_rfl
 g19:=by kernel_rfl
 i0:=by kernel_rfl
 i2:=by kernel_rfl
 i3:=by kernel_rfl
 i4:=by kernel_rfl
 i5:=by kernel_rfl
 i9:=by kernel_rfl
 i20:=by kernel_rfl
 i37:=by kernel_rfl
 i46:=by kernel_rfl
 i51:=by kernel_rfl
 i53:=by kernel_rfl
 i171:=by kernel_rfl
 i173:=by kernel_rfl
 i212:=by kernel_rfl
 i232:=by kernel_rfl
 i233:=by kernel_rfl
 m17:=by kernel_rfl
 m18:=by kernel_rfl
 m19:=by kernel_rfl
theorem qh{c:C}{l:S}{x:Value}(h:VRel c (.str l) x):x= .string ⟨l.toArray⟩:=by
 simp only[VRel]at h;obtain⟨s,rfl,h,_⟩:=h
 congr 1
 rw[<-h]
theorem FW[MO](s:S)(n:Nat)(hn:n<256):Ev TE 251 [.str s,.int .u8 n] (vi (Lib.indexByte s (UInt8.ofNat n))):=by intro ok w vs hs hl;simp only[VList,VRel]at hl;obtain⟨y,ys,rfl,⟨b,rfl,hb,_⟩,y2,ys2,rfl,rfl,rfl⟩:=hl;refine Calls.mono (Any.strings_IndexByte Nj b n w) ?_;rintro en w' ⟨rfl,rfl⟩;refine⟨_,rfl,WExt.refl _,?_⟩;simp only[VRel];rw[hb];rfl
theorem PP[MO](s:S)(c:UInt8):Ev TE 181 [.str s,.str [c]] (vi (s.count c:Nat)):=by intro ok w vs hs hl;simp only[VList]at hl;obtain⟨y,ys,rfl,h1,y2,ys2,rfl,h2,rfl⟩:=hl;have:=qh h1;subst this;have:=qh h2;subst this;refine Calls.mono (Any.strings_Count_one Zi ⟨s.toArray⟩ c w) ?_;rintro en w' ⟨rfl,rfl⟩;exact⟨_,rfl,WExt.refl _,by simp only[VRel];rfl⟩
theorem Uu[MO](s:S)(c:UInt8)(hs0:aa s<=1000000000):Ev TE 182 [.str s,.str [c]] (vi (Lib.lastIndexByte ⟨s.toArray⟩ c.toNat)):=by intro ok w vs hs hl;simp only[VList]at hl;obtain⟨y,ys,rfl,h1,y2,ys2,rfl,h2,rfl⟩:=hl;have:=qh h1;subst this;have:=qh h2;subst this;refine Calls.mono (Any.strings_LastIndex_one Nk ⟨s.toArray⟩ ⟨#[c]⟩ rfl (by show s.toArray.size<_;simp;omega) w) ?_;rintro en w' ⟨rfl,rfl⟩;exact⟨_,rfl,WExt.refl _,by simp only[VRel];rfl⟩
theorem zaS:Builder.Extra Tryz.prog FV where
 sizeBuilder:=by kernel_rfl
 liesBuilder:=by kernel_rfl
 t5:=Tryz.underlying5
 a5:=Tryz.isAgg5
 z5:=Tryz.sizeOf5
 v5:=Tryz.zeroValue5
 infoByte:=by kernel_rfl
 cellsByte:=by kernel_rfl
 sizeByte:=by kernel_rfl
 neB5:=by decide
theorem FX{α:Type}(p:α->Bool)(l:List α):aa (l.dropWhile p)<=aa l:=(List.dropWhile_sublist p).length_le
theorem PQ(l cs:S):aa (Lib.trimS l cs)<=aa l:=by unfold Lib.trimS Lib.trimLeftS Lib.trimRightS;refine Nat.le_trans (FX _ _) ?_;rw[List.length_reverse];exact Nat.le_trans (FX _ _) (by rw[List.length_reverse];exact zrb _)
theorem uG{w w':World}(x:Below w.heap.size w w'):WExt w w':=⟨x.os,x.tape,x.output,x.size,x.block⟩
theorem DF[MO](s cut:S)(hc:aa cut<=1000)(ha:∀b∈cut,b.toNat<128):Ev TE 154 [.str s,.str cut] (.str (Lib.trimS s cut)):=by
 intro ok w vs hs hl;simp only[VList]at hl;obtain⟨y,ys,rfl,h1,y2,ys2,rfl,h2,rfl⟩:=hl;have hsl:aa s<=maxLen:=by obtain⟨_,_,_,h⟩:=(show ∃s':ByteArray,y= .string s'/\s'.data.toList=s/\aa s<=maxLen by simpa only[VRel]using h1);exact h
 have:=qh h1;subst this;have:=qh h2;subst this;refine Calls.mono (Any.strings_Trim_laid zai (by kernel_rfl) ⟨s.toArray⟩ ⟨cut.toArray⟩ w (by show s.toArray.size<=_;rw[List.size_toArray];exact hsl) (by show cut.toArray.size<_;simp;omega) (λj b hj=>ha b (List.mem_of_getElem? hj))) ?_;rintro en w' ⟨rfl,hw⟩;refine⟨_,rfl,uG hw,?_⟩;simp only[VRel];exact⟨_,rfl,rfl,Nat.le_trans (PQ s cut) hsl⟩
theorem Uw[MO](s cs:S)(hs0:aa s<=1000000)(hc:aa cs<=1000)(ha:∀b∈s,b.toNat<128)(hca:∀b∈cs,b.toNat<128):Ev TE 249 [.str s,.str cs] (.bool (Lib.containsAny s cs)):=by intro ok w vs hs hl;simp only[VList]at hl;obtain⟨y,ys,rfl,h1,y2,ys2,rfl,h2,rfl⟩:=hl;have:=qh h1;subst this;have:=qh h2;subst this;refine Calls.mono (Any.strings_ContainsAny_laid FU (by kernel_rfl) ⟨s.toArray⟩ ⟨cs.toArray⟩ w (by show s.toArray.size<_;simp;omega) (by show cs.toArray.size<_;simp;omega) (λj b hj=>ha b (List.mem_of_getElem? hj)) (λj b hj=>hca b (List.mem_of_getElem? hj))) ?_;rintro en w' ⟨rfl,hw⟩;exact⟨_,rfl,uG hw,by simp only[VRel]⟩
theorem FY[MO](s:S)(n:Nat)(hs0:aa s<=1000)(hn:n<=1000000):Ev TE 151 [.str s,vi n] (.str (Lib.repeatL s n)):=by intro ok w vs hs hl;simp only[VList]at hl;obtain⟨y,ys,rfl,h1,y2,ys2,rfl,h2,rfl⟩:=hl;have:=qh h1;subst this;simp only[VRel]at h2;subst h2;have hp:aa s*n<=1000*1000000:=Nat.mul_le_mul hs0 hn;refine Calls.mono (Any.strings_Repeat Go.Proofs.YthaijohbpdabfaaGreatDoor.Xf zaS ⟨s.toArray⟩ n w (by omega) (by show s.toArray.size*n<=_;simp;omega)) ?_;rintro en w' ⟨rfl,hw⟩;refine⟨_,rfl,uG hw,?_⟩;simp only[VRel];exact⟨_,rfl,rfl,by rw[Lib.repeatL_length];show _<=9223372036854775807;rw[Nat.mul_comm];omega⟩
theorem JZ{c:C}:∀ {l:List S} {xs:List Value},VList c (l.map V.str) xs->xs=l.map λs:S=>Value.string ⟨s.toArray⟩
 |[],xs,h=>by simpa only[List.map_nil,VList]using h
 |a::l,xs,h=>by simp only[zrd,VList]at h;obtain⟨y,ys,rfl,h1,h2⟩:=h;rw[JZ h2,qh h1];rfl
theorem Zk:Builder.Extra Tryz.prog PO where
 sizeBuilder:=by kernel_rfl
 liesBuilder:=by kernel_rfl
 t5:=Tryz.underlying5
 a5:=Tryz.isAgg5
 z5:=Tryz.sizeOf5
 v5:=Tryz.zeroValue5
 infoByte:=by kernel_rfl
 cellsByte:=by kernel_rfl
 sizeByte:=by kernel_rfl
 neB5:=by decide
theorem Xh{w:World}{b o:Nat}{v:Value}(h:w.cell? ⟨b,o,aq⟩=al v):b<w.heap.size:=by
 rcases Nat.lt_or_ge b w.heap.size with h1|h1
 ·exact h1
 ·exfalso;unfold World.cell? at h;simp[Array.getElem?_eq_none h1]at h
theorem BD:∀l:List S,(l.map λs:S=>(⟨s.toArray⟩:ByteArray)).map (·.data.toList)=l
 |[]=>rfl
 |a::l=>by rw[zrd,zrd,BD l]
theorem Ux[MO](l:List S)(sep:S)(hn:aa l<=100000000)(hj:aa (Lib.join l sep)<=100000000):Ev TE 40 [aJ l,.str sep] (.str (Lib.join l sep)):=by
 intro ok w vs hs hl;simp only[VList]at hl;obtain⟨y,ys,rfl,h1,y2,ys2,rfl,h2,rfl⟩:=hl;have:=qh h2;subst this;simp only[VRel]at h1;obtain⟨a,cp,rfl,hle,hcp,_,hel⟩:=h1;rw[zra]at hle;have fin:Calls TE.P 40 (Value.slice a (aa (l.map V.str)) cp::Value.string ⟨sep.toArray⟩::[]).toArray w λen w'=>en= .returned (.string ⟨(Lib.join l sep).toArray⟩)/\Below w.heap.size w w':=by
  rw[zra];rcases l with _|⟨s0,l0⟩
  ·exact(Any.strings_Join_none Zj Zk a cp ⟨sep.toArray⟩ w).mono λe w' ⟨he,hw⟩=>⟨he,hw▸Below.refl _ _⟩
  ·obtain⟨b,off,rfl,hv⟩:=hel.resolve_left (by simp);obtain⟨xs,hx1,hx2,hx3⟩:=VElems.list hv (by intro v hv;obtain⟨s,_,rfl⟩:=zrh.1 hv;rfl);have hxs:=JZ hx3;subst hxs;have fA:∀(j:Nat)(x:ByteArray),((s0::l0).map λs:S=>(⟨s.toArray⟩:ByteArray))[j]? =al x->w.cell? ⟨b,off+j,aq⟩=al (.string x):=λj x hj=>by
    refine hx2 j _ ?_;rw[zqo]at hj ⊢;cases hg:(s0::l0)[j]? with
    |none=>rw[hg]at hj;simp at hj
    |some s=>rw[hg]at hj;simp at hj;subst hj;rfl
   have hmm:=BD (s0::l0);have:=Any.strings_Join Zj Zk b off cp ((s0::l0).map λs:S=>(⟨s.toArray⟩:ByteArray)) ⟨sep.toArray⟩ w fA (Xh (fA 0 _ rfl)) (by simp at hn ⊢;omega) (by simpa using hle) (by rw[hmm];show aa (Lib.join (s0::l0) sep)<=_;omega);rw[hmm,zra]at this;exact this
 refine Calls.mono fin ?_;rintro en w' ⟨rfl,hb⟩;refine⟨_,rfl,uG hb,?_⟩;simp only[VRel];exact⟨_,rfl,by simp,by have hM:=mLx;omega⟩
theorem Uy(w:World)(k:Nat)(os:Array Obj):WExt w (Sort.grow (w.drewN k) os):=by
 refine⟨rfl,rfl,rfl,?_,λb hb=> ?_⟩
 ·show w.heap.size<=(w.heap++os).size;simp
 ·show(w.heap++os)[b]? =w.heap[b]?;rw[Array.getElem?_append_left hb]
theorem Zl{w:World}{name:String}{g:Nat}{cs:Array Value}{ty:TypeId}{fz:Nat×Nat}(hn:Tryz.prog.globalNamed name=al g)(hg:w.heap[g]? =al (Obj.cells cs ty fz)):w.var? Tryz.prog name=al cs:=by unfold World.var?;rw[hn];simp[hg]
theorem zi:∀(k u:Nat),u<10^(k+1)->Lib.nDigits u<=k+1
 |0,u,h=>by rw[Lib.nDigits_small (by simpa using h)];exact zrb _
 |k+1,u,h=>by
  by_cases hu:u<10
  ·rw[Lib.nDigits_small hu];omega
  ·rw[Lib.nDigits_big hu];have:=zi k (u/10) (by rw[Nat.pow_succ]at h;omega);omega
theorem J3(n:Int)(h0:0<=n)(h1:n<=2147483647):aa (Lib.itoa n)<=10:=by obtain⟨m,rfl⟩:∃m:Nat,n=m:=⟨n.toNat,by omega⟩;unfold Lib.itoa;rw[if_neg (by omega),zsg,Lib.decDigits_length];exact zi 9 m (by omega)
theorem Xi [MO] (n : Int) (h0 : -9223372036854775808 ≤ n) (h1 : n ≤ 9223372036854775807) (w : World) (htab : Lib.TabIs Tryz.prog w "internal/strconv.uint64pow10" .u64 Lib.pow10Tab) :
 Calls Tryz.prog 223 #[.int .i64 n] w λe w'=>e= .returned (.string ⟨(Lib.itoa n).toArray⟩)/\∃k os,w'=Sort.grow (w.drewN k) os:=Any.strconv_Itoa zaj n h0 h1 w htab
theorem Xj[MO](n:Int)(h0:0<=n)(h1:n<=2147483647):Ev TE 223 [vi n] (.str (Lib.itoa n)):=by intro ok w vs hs hl;simp only[VList,VRel]at hl;obtain⟨y,ys,rfl,rfl,rfl⟩:=hl;obtain⟨_,cs,ty,fz,hg0,hg1⟩:=hs.exa 10 _ rfl;have hg1:cs=_:=hg1;subst hg1;refine Calls.mono (Xi n (by omega) (by omega) w (Zl (by kernel_rfl) hg0)) ?_;rintro en w' ⟨rfl,k,os,rfl⟩;refine⟨_,rfl,Uy w k os,?_⟩;simp only[VRel];exact⟨_,rfl,by simp,by have:=J3 n h0 h1;simp only[maxLen];omega⟩
theorem IW(p s:S):p.isPrefixOf s=(ar (aa p<=aa s)&&(s.take (aa p)==p)):=by
 rw[Bool.eq_iff_iff,List.isPrefixOf_iff_prefix,List.prefix_iff_eq_take,zqf,zqb,beq_iff_eq];constructor
 ·intro h;have:=congrArg List.length h;rw[zrl]at this;exact⟨by omega,h.symm⟩
 ·exact λh=>h.2.symm
theorem FZ[MO](s p:S):Ev TE 197 [.str s,.str p] (.bool (p.isPrefixOf s)):=by
 rw[IW];refine ai Tryz.func197 rfl (by simp[nts]) (vm ?_);by_cases hle:aa p<=aa s
 ·have e1:ar ((aa p:Int)<=(aa s:Int))=ab:=by simpa using hle
  have e2:ar (aa p<=aa s)=ab:=by simpa using hle
  simp only[wq.1,seval,Tryz.results197,e1,e2];exact⟨⟨by omega,by omega⟩,aC.dat rfl⟩
 ·have e1:ar ((aa p:Int)<=(aa s:Int))=ac:=by simpa using hle
  have e2:ar (aa p<=aa s)=ac:=by simpa using hle
  simp only[wq.1,seval,Tryz.results197,e1,e2];exact aC.dat rfl
theorem Xk[MO](s p:S):Ev TE 147 [.str s,.str p] (.bool (p.isPrefixOf s)):=by refine ai Tryz.func147 rfl (by simp[nts]) (vm ?_);simp only[wq.1,seval,Tryz.results147];refine ag.ev (FZ s p) rfl ?_;simp only[wq.1,seval];exact aC.dat rfl
theorem Xl(c d:UInt8):((c.toNat:Int) != (d.toNat:Int))=(c != d):=by
 rw[bne,bne]
 congr 1
 rw[Bool.eq_iff_iff,beq_iff_eq,beq_iff_eq,Int.ofNat_inj];exact⟨λh=>UInt8.toNat_inj.1 h,λh=>by rw[h]⟩
theorem Xm(c d:UInt8):((c.toNat:Int)==(d.toNat:Int))=(c==d):=by rw[Bool.eq_iff_iff,beq_iff_eq,beq_iff_eq,Int.ofNat_inj];exact⟨λh=>UInt8.toNat_inj.1 h,λh=>by rw[h]⟩
theorem DI:∀(l:S)(c:UInt8),ar (Lib.indexByte l c<0)= !l.contains c
 |[],c=>rfl
 |x::l,c=>by
  have ih:=DI l c;rw[List.contains_cons];by_cases h:x=c
  ·subst h;simp[Lib.indexByte]
  ·have h1:(x==c)=ac:=by simpa using h
   have h2:(c==x)=ac:=by simpa using λe:c=x=>h e.symm
   rw[h2,Bool.false_or,<-ih,Lib.indexByte,h1];have h3:=Lib.indexByte_ge l c;generalize Lib.indexByte l c=z at *;by_cases hm:z=-1
   ·subst hm;rfl
   ·have:(z==-1)=ac:=by simpa using hm
    rw[this];simp;omega
theorem J4(l:S)(c:UInt8):ar (0<=Lib.indexByte l c)=l.contains c:=by have:=DI l c;rw[<-Bool.not_not (b:=l.contains c),<-this,<-decide_not];exact decide_eq_decide.2 (by omega)
theorem Uz[MO](c:UInt8):Ev TE 324 [vb c] (.bool (c != 10)):=by refine ai Tryz.func324 rfl (by simp[nts]) (vm ?_);simp only[wq.1,seval,Tryz.results324];refine aC.eq rfl ?_;rw[<-Xl c 10];rfl
def EF(p:UInt8->Bool)(s:S):Nat:=(s.takeWhile p).length
theorem F6{p:UInt8->Bool}{s:S}{n:Nat}(h:n<=aa s)(ha:∀x∈s.take n,p x=ab)(hs:∀hn:n<aa s,p s[n]=ac):EF p s=n:=by
 have e:s=s.take n++s.drop n:=(List.take_append_drop n s).symm;have h1:(s.drop n).takeWhile p=[]:=by
  by_cases hn:n<aa s
  ·rw[List.drop_eq_getElem_cons hn,List.takeWhile_cons,hs hn];rfl
  ·rw[List.drop_eq_nil_of_le (by omega)];rfl
 unfold EF;rw[e,List.takeWhile_append_of_pos ha,h1,zqp,zrl];omega
theorem VZ[MO](s:S)(a:Nat)(q:FuncId)(p:UInt8->Bool)(ha:a<=aa s)(hs:aa s<=1000000000)(he:ah P q=ab)(hq:∀c:UInt8,Ev TE q [vb c] (.bool (p c))) :
 Ev TE 321 [.str s,vi a,.fn (.func q) [] []] (vi (EF p (s.drop a))):=by
 have hM:=mLx;refine ai Tryz.func321 rfl (by simp[nts]) (vm ?_);simp only[wq.1,Nat.reduceLT,Tryz.results321];refine aF (λm f h=>∃i,m+i=aa s-a/\f.t 0= .str s/\f.t 1=vi a/\f.t 2= .fn (.func q) [] []/\f.t 7=vi i/\f.d=[]/\∀x∈(s.drop a).take i,p x=ab) (aa s-a) ⟨0,by simp,rfl,rfl,rfl,rfl,rfl,by simp⟩ ?_;rintro m f h ⟨i,hm,h0,h1,h2,h7,hd,hall⟩;have hl:aa (s.drop a)=aa s-a:=List.length_drop ..;have w1:aD .i64 ((a:Int)+i)=((a+i:Nat):Int):=by rw[iW (by omega) (by omega)];omega
 refine vm ?_;by_cases hc:a+i<aa s
 ·have hc':ar (((a+i:Nat):Int)<aa s)=ab:=by simp;omega
  have hg:(s.drop a)[i]'(by omega)=s[a+i]:=List.getElem_drop ..;simp only[wq.1,seval,h0,h1,h2,h7,w1,hc',PD hc,he];refine⟨⟨by omega,by omega⟩,ag.ev (hq _) rfl ?_⟩;simp only[wq.1,seval];cases hp:p s[a+i]with
  |true=>simp only[wq.1,seval,h7,aA (show i<maxLen by omega)];exact .inl ⟨m-1,by omega,i+1,by omega,h0,h1,h2,rfl,hd,cu (by omega) hall (by rw[hg];exact hp)⟩
  |false=>simp only[wq.1,seval,h7,hd];rw[F6 (n:=i) (by omega) hall (λ_=>by rw[hg];exact hp)];exact aC.dat rfl
 ·have hc':ar (((a+i:Nat):Int)<aa s)=ac:=by simp;omega
  simp only[wq.1,seval,h0,h1,h2,h7,w1,hc'];refine⟨.any,?_⟩;simp only[wq.1,seval,h7,hd];rw[F6 (n:=i) (by omega) hall (λh=>absurd h (by omega))];exact aC.dat rfl
theorem Xn[MO](s:S)(a:Nat)(ha:a<=aa s)(hs:aa s<=1000000000):Ev TE 319 [.str s,vi a] (vi (EF (· != 10) (s.drop a))):=by refine ai Tryz.func319 rfl (by simp[nts]) (vm ?_);simp only[wq.1,seval,Tryz.results319];refine ag.ev (VZ s a 324 _ ha hs (by simp[ens]) Uz) rfl ?_;simp only[wq.1,seval];exact aC.dat rfl
abbrev Tk.v(t:Tk):V:= .agg [vi t.k,.str t.t,vi t.at']
abbrev sU(l:List Tk):V:= .is ac 3 (l.map Tk.v)
theorem PR[MO](n:Int):Ev TE 318 [vi n] (.tup [.agg [vi (-1),.str [],vi 0],vi n]):=by refine ai Tryz.func318 rfl (by simp[nts]) (vm ?_);simp only[wq.1,seval,Tryz.results318];exact aC.dat rfl
theorem V3[MO](k:Int)(s:S)(a n:Nat)(hn:n≠0)(ha:a+n<=aa s)(hs:aa s<=1000000000):Ev TE 320 [vi k,.str s,vi a,vi n] (.tup [.agg [vi k,.str ((s.drop a).take n),vi a],vi n]):=by
 have e0:((n:Int)==0)=ac:=by simpa using hn
 have w1:aD .i64 ((a:Int)+n)=((a+n:Nat):Int):=by rw[iW (by omega) (by omega)];omega
 refine ai Tryz.func320 rfl (by simp[nts]) (vm ?_);simp only[wq.1,seval,Tryz.results320,e0,w1];rw[Nat.add_sub_cancel_left];exact⟨by omega,aC.dat rfl⟩
theorem DJ(p:UInt8->Bool):∀l:S,l.dropWhile p=l.drop (EF p l)
 |[]=>rfl
 |x::l=>by
  unfold EF;cases h:p x with
  |true=>rw[List.dropWhile_cons,if_pos h,List.takeWhile_cons,if_pos h,zrt,List.drop_succ_cons,DJ p l];rfl
  |false=>rw[List.dropWhile_cons,if_neg (by rw[h];decide),List.takeWhile_cons,if_neg (by rw[h];decide)];rfl
abbrev tkO:Option Tk->V
 |some t=>t.v
 |none=> .agg [vi (-1),.str [],vi 0]
abbrev tkF(t:Tk):List V:=[vi t.k,.str t.t,vi t.at']
def tkC(l:List Tk):List V:=l.flatMap tkF
theorem Xo(l:List Tk)(t:Tk):tkC (l++[t])=tkC l++tkF t:=by simp[tkC]
theorem Xp(l:List Tk):aa (tkC l)=aa l*3:=by
 induction l with
 |nil=>rfl
 |cons t l ih=>show aa (_::_::_::tkC l)=_;simp only[zrt,ih];omega
theorem zl{p:Nat->Bool}:∀l:List Tk,ap p (tkC l)=tkC l
 |[]=>rfl
 |t::l=>by show V.drop p (vi t.k)::V.drop p (.str t.t)::V.drop p (vi t.at')::ap p (tkC l)=_;rw[zl l];rfl
theorem J5:∀l:List Tk,aL (tkC l)=ab
 |[]=>rfl
 |t::l=>by show(aE (vi t.k)&&(aE (.str t.t)&&(aE (vi t.at')&&aL (tkC l))))=ab;rw[J5 l];rfl
theorem V4:∀l:List Tk,bV 3 (l.map Tk.v)=ab
 |[]=>rfl
 |t::l=>by show(_&&bV 3 (l.map Tk.v))=ab;rw[V4 l];rfl
theorem Zm:∀l:List Tk,(l.map Tk.v).flatMap V.vc=tkC l
 |[]=>rfl
 |t::l=>by show V.vc (Tk.v t)++(l.map Tk.v).flatMap V.vc=_;rw[Zm l];rfl
theorem PS[MO]{h:H}{id len cap:Nat}{l:List Tk}(hc:h[id]? =al (am (tkC l)))(hl:len=aa l):aC TE h (.ls id 3 0 len cap) (sU l) :=
 aC.ls hc (au.dat (J5 l)) (V4 l) (Zm l) (by rw[zra];exact hl)
theorem PT[MO]{h:H}{K:H->(Nat->Bool)->Prop}(hK:∀X,K (h++[X]) (λ_=>ac)):jM TE 118 [.lp 0 0,.lp 1 0,.lp 2 0] h K:=by
 have hgE:∀x:O,(h++[x])[aa h]? =al x:=λx=>by simp
 have hgS:∀x y:O,(h++[x]).set (aa h) y=h++[y]:=λx y=>by simp
 refine mP rfl Tryz.func118 rfl rfl (by simp[nts]) rfl (λev w=>rfl) rfl (by decide) ?_;simp only[nts];refine dM rfl rfl ?_;refine kS (x:= .tmp 6) (t:=193) (q:=⟨.struct [(0,3)],1,8,.agg [vi 0]⟩) rfl (by simp only[wq.1]) (by simp only[wq.1,↓reduceIte]) (by simp only[wq.1,↓reduceIte]) ?_;refine az rfl rfl ?_;simp only[wq.1,↓reduceIte];refine az rfl rfl ?_;simp only[wq.1,seval];refine az rfl rfl ?_;simp only[wq.1,seval];refine az rfl rfl ?_;simp only[wq.1];refine az rfl rfl ?_;simp only[wq.1,seval,hgE,hgS];refine az rfl rfl ?_;simp only[wq.1,seval];refine dL ?_;show awp _ _ _ _ _ _ _;refine vm ?_;simp only[wq.1,seval];exact hK _
abbrev Ga.v(g:Ga):V:= .agg [.str g.name,vi g.op,aJ g.ins,aJ g.rows,.bool g.off]
abbrev La.v(q:La):V:= .agg [.str q.name,.str q.next,vi q.init]
abbrev iU(l:List Ga):V:= .is ac 5 (l.map Ga.v)
abbrev kY(l:List La):V:= .is ac 3 (l.map La.v)
abbrev Ci.v(c:Ci):V:= .agg [aJ c.ins,aJ c.outs,kY c.lat,iU c.gates]
def gaC(l:List Ga):List V:=l.flatMap λg=>[.str g.name,vi g.op,aJ g.ins,aJ g.rows,.bool g.off]
def laC(l:List La):List V:=l.flatMap λq=>[.str q.name,.str q.next,vi q.init]
theorem J6:∀l:List La,aL (laC l)=ab
 |[]=>rfl
 |t::l=>by show(aE (.str t.name)&&(aE (.str t.next)&&(aE (vi t.init)&&aL (laC l))))=ab;rw[J6 l];rfl
theorem V5:∀l:List La,bV 3 (l.map La.v)=ab
 |[]=>rfl
 |t::l=>by show(_&&bV 3 (l.map La.v))=ab;rw[V5 l];rfl
theorem Xq:∀l:List La,(l.map La.v).flatMap V.vc=laC l
 |[]=>rfl
 |t::l=>by show V.vc (La.v t)++(l.map La.v).flatMap V.vc=_;rw[Xq l];rfl
theorem zo[MO]{h:H}{id len cap:Nat}{l:List La}(hc:h[id]? =al (am (laC l)))(hl:len=aa l):aC TE h (.ls id 3 0 len cap) (kY l) :=
 aC.ls hc (au.dat (J6 l)) (V5 l) (Xq l) (by rw[zra];exact hl)
theorem J7:∀l:List Ga,aL (gaC l)=ab
 |[]=>rfl
 |t::l=>by show(aE (.str t.name)&&(aE (vi t.op)&&(aE (aJ t.ins)&&(aE (aJ t.rows)&&(aE (.bool t.off)&&aL (gaC l))))))=ab;rw[J7 l];simp only[aE,ax,zre]
theorem kZ:∀l:List Ga,aL (l.map Ga.v)=ab
 |[]=>rfl
 |t::l=>by show(aE (Ga.v t)&&aL (l.map Ga.v))=ab;rw[kZ l];simp only[aE,aL,ax,zre]
theorem lg:∀l:List La,aL (l.map La.v)=ab
 |[]=>rfl
 |t::l=>by show(aE (La.v t)&&aL (l.map La.v))=ab;rw[lg l];rfl
theorem IX:∀l:List Tk,aL (l.map Tk.v)=ab
 |[]=>rfl
 |t::l=>by show(aE (Tk.v t)&&aL (l.map Tk.v))=ab;rw[IX l];rfl
theorem xk(c:Ci):aE c.v=ab:=by simp only[Ci.v,aE,aL,ax,lg,kZ,zre]
theorem V6:∀l:List Ga,bV 5 (l.map Ga.v)=ab
 |[]=>rfl
 |t::l=>by show(_&&bV 5 (l.map Ga.v))=ab;rw[V6 l];rfl
theorem Zn:∀l:List Ga,(l.map Ga.v).flatMap V.vc=gaC l
 |[]=>rfl
 |t::l=>by show V.vc (Ga.v t)++(l.map Ga.v).flatMap V.vc=_;rw[Zn l];rfl
theorem zq[MO]{h:H}{id len cap:Nat}{l:List Ga}(hc:h[id]? =al (am (gaC l)))(hl:len=aa l):aC TE h (.ls id 5 0 len cap) (iU l) :=
 aC.ls hc (au.dat (J7 l)) (V6 l) (Zn l) (by rw[zra];exact hl)
theorem UA{c:List Ga}{r:List V}(hb:V.bnds (iU c::r)):aa c<=maxLen:=by simp only[V.bnds,V.bnd,zra]at hb;exact hb.1.1
theorem UB{c:List Tk}{r:List V}(hb:V.bnds (sU c::r)):aa c<=maxLen:=by simp only[V.bnds,V.bnd,zra]at hb;exact hb.1.1
theorem PU{c:List S}{r:List V}(hb:V.bnds (aJ c::r)):aa c<=maxLen:=by simp only[V.bnds,V.bnd,zra]at hb;exact hb.1.1
theorem uH{c:List Ga}{i:Nat}(h:i<aa c)(d:V):(c.map Ga.v).getD i d=Ga.v c[i]:=fG h _
theorem Zo{c:List Tk}{i:Nat}(h:i<aa c)(d:V):(c.map Tk.v).getD i d=Tk.v c[i]:=fG h _
theorem IY{c:List La}{i:Nat}(h:i<aa c)(d:V):(c.map La.v).getD i d=La.v c[i]:=fG h _
theorem F7:∀l:S,gG (l.map vb)=al l
 |[]=>rfl
 |a::l=>by
  simp only[zrd,gG,F7 l,zrw]
  congr 2
  exact UInt8.ofNat_toNat
theorem qO{h:H}{l:S}{k cap:Nat}(hc:h[k]? =al (am (l.map vb))):(jq P h 79 9 (.ls k 1 0 (aa l) cap)).1=True/\(jq P h 79 9 (.ls k 1 0 (aa l) cap)).2= .str l:=by
 have h1:fA h k=l.map vb:=by simp only[fA,hc]
 have h2:gG (((fA h k).drop 0).take (aa l))=al l:=by rw[h1,List.drop_zero,zqh (by simp),F7]
 have h3:0+aa l<=aa (fA h k):=by rw[h1];simp
 unfold jq;simp only[tis,h2];exact⟨eq_true ⟨trivial,trivial,h3⟩,trivial⟩
theorem PX[MO](c:List S)(q:FuncId)(caps:List V)(p:S->Bool)(he:ah P q=ab)(hd:aL caps=ab)(hq:∀x∈c,Ev TE q (.str x::caps) (.bool (p x))):Ev TE 209 [aJ c,.fn (.func q) [] caps] (vi (idx c p)):=by
 refine Ev.bnd λhb=> ?_;have hlen:=PU hb;refine ai Tryz.func209 rfl (by simp[nts]) (vm ?_);simp only[wq.1,seval,Tryz.results209];refine aF (λm f h=>∃i,m+i=aa c/\f.t 0=aJ c/\f.t 1= .fn (.func q) [] caps/\f.t 7= .int .i64 (aa c:Int)/\f.t 8= .int .i64 (i:Int)/\f.d=[]/\∀x∈c.take i,p x=ac) (aa c) ⟨0,by simp,rfl,rfl,by simp only[wq.1,seval],rfl,rfl,by simp⟩ ?_;rintro m f h ⟨i,hm,h0,h1,h7,h8,hdd,hall⟩;refine vm ?_;simp only[wq.1,seval,h7,h8];refine vcB.mk (λhc=> ?_) (λhc=> ?_)
 ·simp only[zqb,zqi]at hc;simp only[wq.1,seval,h0,h1,h8,Bz hc,he];refine⟨⟨by omega,by omega⟩,ag.ev (hq _ (zqu _)) (by simp[aL,aE,hd,ax]) ?_⟩;simp only[wq.1,seval];refine vcB.mk (λhc'=> ?_) (λhc'=> ?_)
  ·simp only[wq.1,seval,hdd];rw[Dz hc hall hc'];exact aC.dat rfl
  ·simp only[wq.1,seval,h8,aA (show i<maxLen by omega)];exact .inl ⟨m-1,by omega,i+1,by omega,h0,h1,h7,rfl,hdd,cu hc hall hc'⟩
 ·simp only[zqd,zqi]at hc;simp only[wq.1,seval,hdd];rw[zqh (by omega)]at hall;rw[yc hall];exact aC.dat rfl
theorem DK[MO](c:List S)(q:FuncId)(caps:List V)(p:S->Bool)(he:ah P q=ab)(hd:aL caps=ab)(hq:∀x∈c,Ev TE q (.str x::caps) (.bool (p x))):Ev TE 155 [aJ c,.fn (.func q) [] caps] (.bool (c.any p)):=by refine ai Tryz.func155 rfl (by simp[nts]) (vm ?_);simp only[wq.1,seval,Tryz.results155];refine ag.ev (PX c q caps p he hd hq) (by simp[aL,aE,hd,ax]) ?_;simp only[wq.1,seval];exact aC.eq rfl (by rw[Pz])
theorem Xr[MO](c:List Ga)(q:FuncId)(caps:List V)(p:Ga->Bool)(he:ah P q=ab)(hd:aL caps=ab)(hq:∀x∈c,Ev TE q (Ga.v x::caps) (.bool (p x))):Ev TE 166 [iU c,.fn (.func q) [] caps] (vi (idx c p)):=by
 refine Ev.bnd λhb=> ?_;have hlen:=UA hb;refine ai Tryz.func166 rfl (by simp[nts]) (vm ?_);simp only[wq.1,seval,Tryz.results166];refine aF (λm f h=>∃i,m+i=aa c/\f.t 0=iU c/\f.t 1= .fn (.func q) [] caps/\f.t 7= .int .i64 (aa c:Int)/\f.t 8= .int .i64 (i:Int)/\f.d=[]/\∀x∈c.take i,p x=ac) (aa c) ⟨0,by simp,rfl,rfl,by simp only[wq.1,seval],rfl,rfl,by simp⟩ ?_;rintro m f h ⟨i,hm,h0,h1,h7,h8,hdd,hall⟩;refine vm ?_;simp only[wq.1,seval,h7,h8];refine vcB.mk (λhc=> ?_) (λhc=> ?_)
 ·simp only[zqb,zqi]at hc;simp only[wq.1,seval,h0,h1,h8,uH hc,he];refine⟨⟨by omega,by omega⟩,ag.ev (hq _ (zqu _)) (by simp[aL,aE,hd,ax]) ?_⟩;simp only[wq.1,seval];refine vcB.mk (λhc'=> ?_) (λhc'=> ?_)
  ·simp only[wq.1,seval,hdd];rw[Dz hc hall hc'];exact aC.dat rfl
  ·simp only[wq.1,seval,h8,aA (show i<maxLen by omega)];exact .inl ⟨m-1,by omega,i+1,by omega,h0,h1,h7,rfl,hdd,cu hc hall hc'⟩
 ·simp only[zqd,zqi]at hc;simp only[wq.1,seval,hdd];rw[zqh (by omega)]at hall;rw[yc hall];exact aC.dat rfl
theorem Xt[MO](c:List Ga)(q:FuncId)(caps:List V)(p:Ga->Bool)(he:ah P q=ab)(hd:aL caps=ab)(hq:∀x∈c,Ev TE q (Ga.v x::caps) (.bool (p x))):Ev TE 103 [iU c,.fn (.func q) [] caps] (.bool (c.any p)):=by refine ai Tryz.func103 rfl (by simp[nts]) (vm ?_);simp only[wq.1,seval,Tryz.results103];refine ag.ev (Xr c q caps p he hd hq) (by simp[aL,aE,hd,kZ]) ?_;simp only[wq.1,seval];exact aC.eq rfl (by rw[Pz])
theorem Xu[MO](c:List Tk)(q:FuncId)(caps:List V)(p:Tk->Bool)(he:ah P q=ab)(hd:aL caps=ab)(hq:∀x∈c,Ev TE q (Tk.v x::caps) (.bool (p x))):Ev TE 70 [sU c,.fn (.func q) [] caps] (vi (idx c p)):=by
 refine Ev.bnd λhb=> ?_;have hlen:=UB hb;refine ai Tryz.func70 rfl (by simp[nts]) (vm ?_);simp only[wq.1,seval,Tryz.results70];refine aF (λm f h=>∃i,m+i=aa c/\f.t 0=sU c/\f.t 1= .fn (.func q) [] caps/\f.t 7= .int .i64 (aa c:Int)/\f.t 8= .int .i64 (i:Int)/\f.d=[]/\∀x∈c.take i,p x=ac) (aa c) ⟨0,by simp,rfl,rfl,by simp only[wq.1,seval],rfl,rfl,by simp⟩ ?_;rintro m f h ⟨i,hm,h0,h1,h7,h8,hdd,hall⟩;refine vm ?_;simp only[wq.1,seval,h7,h8];refine vcB.mk (λhc=> ?_) (λhc=> ?_)
 ·simp only[zqb,zqi]at hc;simp only[wq.1,seval,h0,h1,h8,Zo hc,he];refine⟨⟨by omega,by omega⟩,ag.ev (hq _ (zqu _)) (by simp[aL,aE,hd,ax]) ?_⟩;simp only[wq.1,seval];refine vcB.mk (λhc'=> ?_) (λhc'=> ?_)
  ·simp only[wq.1,seval,hdd];rw[Dz hc hall hc'];exact aC.dat rfl
  ·simp only[wq.1,seval,h8,aA (show i<maxLen by omega)];exact .inl ⟨m-1,by omega,i+1,by omega,h0,h1,h7,rfl,hdd,cu hc hall hc'⟩
 ·simp only[zqd,zqi]at hc;simp only[wq.1,seval,hdd];rw[zqh (by omega)]at hall;rw[yc hall];exact aC.dat rfl
theorem BF(cs:S):∀s:S,Lib.containsAny s cs=s.any (cs.contains ·)
 |[]=>rfl
 |c::s=>by
  have ih:=BF cs s;have hg:=Lib.indexAny_ge cs s;unfold Lib.containsAny at ih ⊢;rw[List.any_cons,<-ih];show ar (0<=if cs.contains c then 0 else if Lib.indexAny s cs==-1 then -1 else Lib.indexAny s cs+1)=_;cases cs.contains c with
  |true=>rfl
  |false =>
   rw[if_neg (by decide),Bool.false_or];by_cases h:Lib.indexAny s cs=-1
   ·rw[h];rfl
   ·rw[if_neg (by simpa using h)];exact decide_eq_decide.2 (by omega)
theorem J8{s:S}(h:aU s=ab):aa s<=40:=by unfold aU at h;simp only[zqf,zqb]at h;exact h.2.2
theorem Zp:∀n:Nat,((n:Nat):Int).fdiv (2^(min 4 IntKind.u8.bits))=((n/16:Nat):Int):=λn=>by show((n:Nat):Int).fdiv 16=_;rw[Int.fdiv_eq_ediv_of_nonneg _ (by decide)];omega
theorem Zq:∀n:Nat,n<256->IntKind.u8.wrap ((BitVec.ofInt IntKind.u8.bits (n:Int) &&& BitVec.ofInt IntKind.u8.bits 15).toNat:Int)=((n%16:Nat):Int):=by decide +kernel
theorem F8{s:S}{i:Nat}(h:i<aa s):bu (s.take (i+1))=bu (s.take i)++Us s[i]:=by unfold bu;rw[List.take_succ_eq_append_getElem h,List.flatMap_append,zqc];simp
theorem zt:∀s:S,aa (bu s)=3+2*aa s:=λs=>by
 unfold bu;have:∀s:S,aa (s.flatMap Us)=2*aa s:=λs=>by
  induction s with
  |nil=>rfl
  |cons c s ih=>rw[List.flatMap_cons,zqa,ih];simp[Us];omega
 rw[zqa,this];rfl
theorem Nl[MO](s:S)(hs:aa s<=1000000):Ev TE 148 [.str s] (.str (bu s)):=by
 have hM:=mLx;refine ai Tryz.func148 rfl (by simp[nts]) ?_;refine vn ?_;simp only[wq.1,seval,Tryz.results148];refine ak (iE ?_);refine IM rfl rfl rfl rfl rfl rfl (by decide) (by decide) (q:=⟨.slice 5,1,24,.nils⟩) (by simp only[wq.1]) rfl (re:=⟨.int .u8,1,1,.int .u8 0⟩) (by simp only[wq.1]) rfl rfl ?_;refine az rfl rfl ?_;simp only[wq.1,↓reduceIte];refine dL ?_;show awp _ _ _ _ _ _ _;refine vn ?_;simp only[wq.1,seval];refine aF (λm f h=>∃i,m+i=aa s/\i<=aa s/\f.t 0= .str s/\f.t 3= .ls 0 1 0 (aa (bu (s.take i))) (aa (bu (s.take i)))/\f.t 8=vi (aa s)/\f.t 9=vi i/\f.d=[]/\h=[am ((bu (s.take i)).map vb)]) (aa s) ⟨0,rfl,by omega,by simp only[wq.1,seval],by simp only[wq.1,seval];rfl,by simp only[wq.1,seval],by simp only[wq.1,↓reduceIte];rfl,rfl,rfl⟩ ?_;rintro m f h ⟨i,hm,hil,h0,h3,h8,h9,hd,rfl⟩;have hw:=aA (show i<maxLen by omega);refine vn ?_;simp only[wq.1,Nat.reduceLT,h8,h9];refine vn ?_;simp only[wq.1,↓reduceIte];refine vcB.mk (λhlt=> ?_) (λhlt=> ?_)
 ·have hlt:i<aa s:=by have:=zqs hlt;omega
  obtain⟨c,hc⟩:∃c,c=s[i]:=⟨_,rfl⟩;have hgc:s.getD i 0=c:=by rw[hc];exact PD hlt
  have hcl:=c.toNat_lt;have e1:=Zp c.toNat;have e2:=Zq c.toNat hcl;have hst:=F8 hlt;rw[<-hc]at hst;have hsl:=zt (s.take i);have htl:aa (s.take i)=i:=by rw[zrl];omega
  obtain⟨T,hT⟩:∃T,T=bu (s.take i):=⟨_,rfl⟩;rw[<-hT]at hst hsl h3 ⊢;have dv:∀p,ap p (T.map vb)=T.map vb:=λp=>uF T;refine ak ?_;refine aB ?_;refine vn ?_;simp only[wq.1,↓reduceIte,Nat.reduceEqDiff,Nat.reduceLT,h9];refine Fp mixed 12 (.one 12<| .take 13<| .fin) (λf' h'=>f'.t 0= .str s/\f'.t 3= .ls 0 1 0 (aa (bu (s.take (i+1)))) (aa (bu (s.take (i+1))))/\f'.t 8=vi (aa s)/\f'.t 9=vi i/\f'.d=[]/\h'=[am ((bu (s.take (i+1))).map vb)]) (by rw[show TE.P=P from rfl];decide +kernel) ?_ ?_
  ·intro K hK;simp only[List.take_succ_cons,List.take_zero];have hx:∀k,([48,49,50,51,52,53,54,55,56,57,97,98,99,100,101,102]:S).getD k 0=Ur k:=λk=>rfl;simp only[wq.1,↓reduceIte,Nat.reduceEqDiff,Nat.reduceLT,Nat.reduceLeDiff,Nat.reduceAdd,Int.reduceToNat,Int.reduceLE,reduceCtorEq,Nat.reduceMul,h0,h3,hgc,e1,e2,hx];refine⟨⟨by omega,by omega⟩,⟨by omega,by omega⟩,⟨by omega,by omega⟩,⟨by omega,by omega⟩,⟨rfl,by decide⟩,hK _ ?_⟩;simp only[wq.1,seval,h0,h8,h9,hd,dv];have hmap:T.map vb++[vb (Ur (c.toNat/16)),vb (Ur (c.toNat%16))]=(bu (s.take (i+1))).map vb:=by rw[hst,zql];rfl
   have hlen:aa T+2=aa (bu (s.take (i+1))):=by rw[hst,zqa];rfl
   refine⟨⟨by omega,by omega,by omega⟩,by rw[hlen],?_⟩;rw[<-hmap]
  ·rintro f h ⟨h0,h3,h8,h9,hd,rfl⟩;show awp _ _ _ _ _ _ _;refine vm ?_;simp only[wq.1,seval,h9,hw];exact .inl ⟨m-1,by omega,i+1,by omega,by omega,by simp only[wq.1,seval,h0],by simp only[wq.1,seval,h3],by simp only[wq.1,seval,h8],by simp only[wq.1,↓reduceIte],by simp only[wq.1,hd],rfl⟩
 ·have hi:i=aa s:=by have:=of_decide_eq_false hlt;omega
  rw[hi,zrx]at h3 ⊢;obtain⟨e1,e2⟩:=qO (h:=[am ((bu s).map vb)]) (l:=bu s) (k:=0) (cap:=(bu s).length) rfl;have hsl:=zt s;refine vm ?_;simp only[wq.1,seval,h3,hd,e1,e2];exact aC.dat rfl
theorem Xv[MO](s p:S)(hs:aa s<=1000000):Ev TE 250 [.str s,.str p] (.tup [.str (if p.isPrefixOf s=ab then s.drop (aa p)else s),.bool (p.isPrefixOf s)]):=by
 have h:=FZ s p;have h2:Ev TE 274 [.str s,.str p] (.tup [.str (if p.isPrefixOf s=ab then s.drop (aa p)else s),.bool (p.isPrefixOf s)]):=by
  have hpl:p.isPrefixOf s=ab->aa p<=aa s:=λh=>(List.isPrefixOf_iff_prefix.1 h).length_le;refine ai Tryz.func274 rfl (by simp[nts]) (vm ?_);simp only[wq.1,seval,Tryz.results274];refine ag.ev h rfl ?_;cases hp:p.isPrefixOf s with
  |true=>have:=hpl hp;simp only[wq.1,seval];exact⟨by omega,aC.dat rfl⟩
  |false=>simp only[wq.1,seval];exact aC.dat rfl
 refine ai Tryz.func250 rfl (by simp[nts]) (vm ?_);simp only[wq.1,seval,Tryz.results250];refine ag.ev h2 rfl ?_;simp only[wq.1,seval];exact aC.dat rfl
theorem PY:∀n:Nat,n<256->Lib.indexByte Zf (UInt8.ofNat n)=Au (UInt8.ofNat n)/\-1<=Au (UInt8.ofNat n)/\Au (UInt8.ofNat n)<=15:=by decide +kernel
theorem Xw(n:Int)(h0:-17<=n)(h1:n<=255):V.int .u8 (IntKind.u8.wrap n)=vb (UInt8.ofNat (n%256).toNat):=by
 have:∀k:Nat,k<273->IntKind.u8.wrap ((k:Int)-17)=((UInt8.ofNat (((k:Int)-17)%256).toNat).toNat:Int):=by decide +kernel
 have h:=this (n+17).toNat (by omega);have e:(((n+17).toNat:Nat):Int)-17=n:=by omega
 rw[e]at h;rw[h]
theorem F9[MO](s:S)(hs:aa s<=1000000):Ev TE 190 [.str s] (.str (bQ s)):=by
 have hM:=mLx;have hcp:=Xv s rC hs;obtain⟨u,hu⟩:∃u,u=if rC.isPrefixOf s=ab then s.drop 3 else s:=⟨_,rfl⟩
 have hul:aa u<=1000000:=by
  rw[hu];split
  ·rw[List.length_drop];omega
  ·exact hs
 have hV:bQ s=kU u:=by unfold bQ;rw[hu]
 rw[show aa rC=3 from rfl,<-hu]at hcp;rw[hV];refine ai Tryz.func190 rfl (by simp[nts]) ?_;refine vn ?_;simp only[wq.1,seval,Tryz.results190];refine vn ?_;simp only[wq.1,Nat.reduceLT];refine iF 3 1 (by simp only[wq.1,↓reduceIte]) ?_;refine vn ?_;simp only[wq.1,seval];refine ag.ev hcp rfl ?_;simp only[wq.1,seval];refine vn ?_;simp only[wq.1];refine aF (λm f h=>∃(r b:S),m=aa r/\aa r<=aa u/\kU u=b++kU r/\aa b<=aa u-aa r/\f.t 4= .str r/\f.t 3= .ls 0 1 0 (aa b) (aa b)/\f.d=[]/\h=[am (b.map vb)]) (aa u) ⟨u,[],rfl,zrb _,rfl,by simp,by simp only[wq.1,seval],by simp only[wq.1,seval],rfl,rfl⟩ ?_;rintro m f h ⟨r,b,rfl,hru,hub,hbl,h4,h3,hd,rfl⟩;refine vn ?_;simp only[wq.1,seval,h4];refine vcB.mk (λhlt=> ?_) (λhlt=> ?_)
 ·obtain⟨x,y,r,rfl⟩:∃x y r',r=x::y::r':=by
   have:=zqs hlt
   match r,this with
   |x::y::r',_=>exact⟨x,y,r',rfl⟩
   |[x],h=>simp at h
   |[],h=>simp at h
  have i1:=FW Zf x.toNat x.toNat_lt;have i2:=FW Zf y.toNat y.toNat_lt;obtain⟨p1,p2,p3⟩:=PY x.toNat x.toNat_lt;obtain⟨q1,q2,q3⟩:=PY y.toNat y.toNat_lt;rw[UInt8.ofNat_toNat]at i1 p1 p2 p3;rw[UInt8.ofNat_toNat]at i2 q1 q2 q3;rw[p1]at i1;rw[q1]at i2;have w1:aD .i64 (Au x*16)=Au x*16:=iW (by omega) (by omega);have w2:aD .i64 (Au x*16+Au y)=Au x*16+Au y:=iW (by omega) (by omega);have w3:=Xw (Au x*16+Au y) (by omega) (by omega);have hun:kU u=(b++[UInt8.ofNat ((Au x*16+Au y)%256).toNat])++kU r:=by rw[hub];simp[kU]
  have dv:∀p,ap p (b.map vb)=b.map vb:=λp=>uF b;simp only[zrt]at hru hbl;refine ak ?_;refine aB ?_;refine vn ?_;simp only[wq.1,seval,h4];refine⟨by decide +kernel,by omega,uh.mk i1 rfl rfl ?_⟩;simp only[wq.1,seval,h4];refine⟨by omega,uh.mk i2 rfl rfl ?_⟩;simp only[wq.1,↓reduceIte,Nat.reduceEqDiff,Nat.reduceLT,w1,w2];obtain⟨B,hB⟩:∃B,B=UInt8.ofNat ((Au x*16+Au y)%256).toNat:=⟨_,rfl⟩;rw[<-hB]at hun w3;have hcv:jq P [am (b.map vb)] 3 5 (vi (Au x*16+Au y))=(True,vb B):=by rw[<-w3];unfold jq;simp only[tis]
  have hdr:(x::y::r).drop 2=r:=rfl;refine vm ?_;simp only[wq.1,↓reduceIte,Nat.reduceEqDiff,Nat.reduceLT,reduceCtorEq,Nat.reduceMul,h3,hd,hcv,dv];refine⟨⟨rfl,by decide⟩,⟨by omega,by omega,by omega⟩,?_⟩;refine vm ?_;simp only[wq.1,seval,h4];refine⟨by omega,.inl ⟨aa r,by omega,r,b++[B],rfl,by omega,hun,by simp;omega,by simp only[wq.1,↓reduceIte],by simp only[wq.1,seval],by simp only[wq.1,hd],by simp⟩⟩
 ·have hlt2:aa r<2:=by have:=of_decide_eq_false hlt;omega
  have hur:kU r=[]:=by
   match r,hlt2 with
   |[],_=>rfl
   |[_],_=>rfl
   |_::_::_,h=>simp only[zrt]at h;omega
  rw[hur,zqp]at hub;obtain⟨e1,e2⟩:=qO (h:=[am (b.map vb)]) (l:=b) (k:=0) (cap:=aa b) rfl;rw[hub];refine vm ?_;simp only[wq.1,seval,h3,hd,e1,e2];exact aC.dat rfl
theorem PZ[MO](op:Int)(n:Nat)(hn:n<=maxLen):Ev TE 87 [vi op,vi n] (.bool (vJ op n)):=by
 have hm:=MO.ins op (.agg [vi 0,vi 0]);by_cases hr:0<=op/\op<=10
 ·rw[if_pos hr]at hm;obtain⟨k,rfl⟩:∃k:Nat,op=k:=⟨op.toNat,by omega⟩;have hk:k<=10:=by omega
  have hv:vJ (k:Int) n=(ar ((n:Int)>=if(k:Int)<=1 then 0 else if(k:Int)<=3 then 1 else if(k:Int)<=9 then 2 else 0)&&ar ((n:Int)<=if(k:Int)<=1 then 0 else if(k:Int)<=3 then 1 else 8)):=by
   unfold vJ;rw[decide_eq_true (by omega),decide_eq_true (by omega),zsg,Bool.true_and,Bool.true_and];have:k=0\/k=1\/k=2\/k=3\/k=4\/k=5\/k=6\/k=7\/k=8\/k=9\/k=10:=by omega
   rw[Bool.eq_iff_iff];rcases this with rfl|rfl|rfl|rfl|rfl|rfl|rfl|rfl|rfl|rfl|rfl<;>simp[JV]<;>omega
  rw[hv];refine ai Tryz.func87 rfl (by simp[nts]) (vm ?_);simp only[wq.1,↓reduceIte,Nat.reduceEqDiff,Nat.reduceLT,Nat.reduceLeDiff,Nat.reduceAdd,Int.reduceToNat,Int.reduceLE,reduceCtorEq,Nat.reduceMul,Tryz.results87,gl1,jh,hm];exact⟨by decide,λ_=>by decide,aC.dat rfl⟩
 ·rw[if_neg hr]at hm;have hv:vJ op n=ac:=by
   unfold vJ;by_cases h0:0<=op
   ·rw[decide_eq_false (show ¬op<=10 by omega)];simp
   ·rw[decide_eq_false h0];rfl
  rw[hv];refine ai Tryz.func87 rfl (by simp[nts]) (vm ?_);simp only[wq.1,seval,Tryz.results87,gl1,jh,hm];exact aC.dat rfl
theorem zu{p:UInt8->Bool}:∀l:S,l.dropWhile p=[]↔∀x∈l,p x=ab
 |[]=>by simp
 |a::l=>by
  rw[List.dropWhile_cons];cases h:p a with
  |true=>rw[if_pos rfl,zu l];simp[h]
  |false=>rw[if_neg (by decide)];simp[h]
theorem BG{p:UInt8->Bool}:∀ {l:S} {a:UInt8} {r:S},l.dropWhile p=a::r->p a=ac
 |b::l,a,r,h=>by
  rw[List.dropWhile_cons]at h;split at h
  ·exact BG h
  ·rename_i hb;injection h with h1 _;subst h1;simpa using hb
theorem UC(s cs:S):(Lib.trimS s cs=[])↔∀x∈s,cs.contains x=ab:=by
 unfold Lib.trimS Lib.trimLeftS Lib.trimRightS;rw[zu];constructor
 ·intro h;cases hd:s.reverse.dropWhile (cs.contains ·)with
  |nil=>exact λx hx=>(zu _).1 hd x (List.mem_reverse.2 hx)
  |cons a r=>exfalso;have ha:=BG hd;have:=h a (by rw[hd];simp);rw[this]at ha;cases ha
 ·intro h x hx;exact h x (List.mem_reverse.1 ((List.dropWhile_sublist _).mem (List.mem_reverse.1 hx)))
theorem J9(n:Nat)(s:S):(((aa s:Int)==(n:Int))&&Lib.trimS s [48,49,45]==[])=mQ n s:=by
 unfold mQ
 congr 1
 ·rw[Bool.eq_iff_iff,beq_iff_eq,beq_iff_eq];omega
 ·rw[Bool.eq_iff_iff,beq_iff_eq,UC,zrs];refine forall_congr' λx=>forall_congr' λ_=> ?_;rw[List.contains_iff_mem];unfold zah;simp[or_assoc]
theorem Xx[MO](s:S)(n:Nat):Ev TE 170 [.str s,vi n] (.bool (mQ n s)):=by have ht:=DF s [48,49,45] (by decide) (by decide);rw[<-J9];refine ai Tryz.func170 rfl (by simp[nts]) (vm ?_);simp only[wq.1,seval,Tryz.results170];refine ET.ev (q:=154) (vs:=[.str s,.str [48,49,45]]) (by simp only[wq.1,seval]) (by simp only[wq.1,seval]) rfl (λ_=>ht) (λ_=>rfl) ?_;simp only[wq.1,seval];exact aC.eq rfl rfl
theorem P5[MO](s:S)(g:Ga):Ev TE 169 [.str s,.ip g.v] (.bool (!mQ (aa g.ins) s)):=by have hr:=Xx s (aa g.ins);refine ai Tryz.func169 rfl (by simp[nts]) (vm ?_);simp only[wq.1,seval,Tryz.results169];refine ag.ev hr rfl ?_;simp only[wq.1,seval];exact aC.eq rfl rfl
theorem V7{g:Ga}{r:List V}(hb:V.bnds (g.v::r)):aa g.ins<=maxLen/\aa g.rows<=maxLen:=by simp only[V.bnds,V.bnd,zra]at hb;exact⟨hb.1.2.2.1.1,hb.1.2.2.2.1.1⟩
theorem Ko[MO](g:Ga):Ev TE 107 [g.v] (.bool (gQ g)):=by
 refine Ev.bnd λhb=> ?_;obtain⟨hl1,hl2⟩:=V7 hb;have hh:=PZ g.op (aa g.ins) hl1;have hct:=DK g.rows 169 [.ip g.v] (λr=> !mQ (aa g.ins) r) rfl (by simp only[aL,aE,ax,zre]) λr _=>P5 r g;have e1:(g.op != 10&&(ar ((0:Int)<(aa g.rows:Int))||g.off))= !(g.op==10||(g.rows.isEmpty&& !g.off)):=by
  have:ar ((0:Int)<(aa g.rows:Int))= !g.rows.isEmpty:=by cases g.rows<;>simp
  rw[this,bne];cases g.op==10<;>cases g.rows.isEmpty<;>cases g.off<;>rfl
 have e2:g.rows.any (λr=> !mQ (aa g.ins) r)= !g.rows.all (mQ (aa g.ins)):=by rw[List.not_all_eq_any_not]
 rw[e2]at hct;refine ai Tryz.func107 rfl (by simp[nts]) (vm ?_);simp only[wq.1,seval,Tryz.results107];refine⟨λh=>⟨h,λh2=>by rw[h,h2];rfl⟩,vcB.mk (λhc=> ?_) (λhc=> ?_)⟩
 ·rw[e1]at hc;have hg:gQ g=ac:=by
   unfold gQ;rw[Bool.not_eq_true']at hc;rw[hc,Bool.false_and]
  rw[hg];simp only[wq.1,seval];exact aC.dat rfl
 ·rw[e1]at hc;have hg:gQ g=(vJ g.op (aa g.ins)&&(ar (aa g.rows<=128)&&g.rows.all (mQ (aa g.ins)))):=by
   unfold gQ;rw[Bool.not_eq_false']at hc;rw[hc,Bool.true_and]
  have e3:ar ((aa g.rows:Int)<=128)=ar (aa g.rows<=128):=decide_eq_decide.2 (by omega);rw[hg];simp only[wq.1,seval];refine ag.ev hh rfl ?_;cases vJ g.op (aa g.ins)with
  |false=>simp only[wq.1,seval];refine⟨.bool ab,?_⟩;simp only[wq.1];exact aC.dat rfl
  |true =>
   cases h128:ar (aa g.rows<=128)with
   |false=>rw[h128]at e3;simp only[wq.1,seval,e3];refine⟨.bool ab,?_⟩;simp only[wq.1];exact aC.dat rfl
   |true=>rw[h128]at e3;simp only[wq.1,seval,e3];refine ag.lend hct (au.cons (aC.dat (by simp only[aE,ax])) (au.cons (aC.fn au.nil (au.cons (aC.lp rfl (au.dat (by simp only[aL,aE,ax,zre])) rfl (by simp only[aE,aL,ax,zre]) (by simp[V.vc]) rfl) au.nil)) au.nil)) rfl ?_;simp only[wq.1,seval];exact aC.eq rfl (by rw[Bool.not_not])
theorem P6{l:List S}{r:List V}(hb:V.bnds (aJ l::r)):aa l<=maxLen:=by simp only[V.bnds,V.bnd,zra]at hb;exact hb.1.1
theorem Xy[MO](a b:List S):Ev TE 54 [aJ a,aJ b] (.bool (a==b)):=by
 refine Ev.bnd λhb=> ?_;have hlen:=P6 hb;refine ai Tryz.func54 rfl (by simp[nts]) (vm ?_);simp only[wq.1,seval,Tryz.results54];refine vcB.mk (λhc=> ?_) (λhc=> ?_)
 ·simp only[wq.1,seval];refine aC.eq rfl ?_;simp only[bne_iff_ne,ne_eq,Int.natCast_inj]at hc;have:¬a=b:=λh=>hc (by rw[h]);simp[this]
 ·have hl:aa a=aa b:=by simpa [Int.natCast_inj]using hc
  simp only[wq.1,seval];refine aF (λm f h=>∃i,m+i=aa a/\f.t 0=aJ a/\f.t 1=aJ b/\f.t 12= .int .i64 (aa a:Int)/\f.t 13= .int .i64 (i:Int)/\f.d=[]/\a.take i=b.take i) (aa a) ⟨0,by simp,rfl,rfl,rfl,rfl,rfl,by simp⟩ ?_;rintro m f h ⟨i,hm,h0,h1,h12,h13,hd,hall⟩;refine vm ?_;simp only[wq.1,seval,h12,h13];refine vcB.mk (λhc=> ?_) (λhc=> ?_)
  ·simp only[zqb,zqi]at hc;have hc2:i<aa b:=by omega
   simp only[wq.1,seval,h0,h1,h13,Bz hc,Bz hc2];refine⟨by decide +kernel,⟨by omega,by omega⟩,⟨by omega,by omega⟩,vcB.mk (λhc=> ?_) (λhc=> ?_)⟩
   ·simp only[wq.1,seval,hd];refine aC.eq rfl ?_;have:¬a=b:=λh=>by subst h;simp at hc
    simp[this]
   ·simp only[wq.1,seval,h13,aA (show i<maxLen by omega)];exact .inl ⟨m-1,by omega,i+1,by omega,h0,h1,h12,rfl,hd,Xb hall (by omega) (by omega) (by simpa using hc)⟩
  ·simp only[zqd,zqi]at hc;simp only[wq.1,seval,hd];refine aC.eq rfl ?_;rw[zqh (by omega),zqh (by omega)]at hall;simp[hall]
end Go.Proofs.YthaijohbpdabfaaGreatDoor
