/-
  Texts of a proof, joined: L9, K14, R2, K13, N1, N2, R3, R4, GA, GB, GC, GD, K27, K15, K16, K17, K19, KC, KN, K32, GE, K20, K21, K22, K23, B0, GF, GG, K25, K28, GH.
  Conditions: none.
-/
import Derived.Test.YtanmnkbccfcagaaGreatDoorProg
import Derived.Shelf.LaysM
import Derived.Ground.MpProg
import Derived.Shelf.Strings.Cut
import Derived.Shelf.Strings.SlTrimAscii
import Derived.Shelf.Pu.ErrVarParseUint
import Derived.Shelf.Strings.Prefix
import Derived.Shelf.Small.Wraps
import Derived.Shelf.Strings.Split
import Derived.Shelf.Strconv.Itoa4
import Derived.Shelf.Bits.Mul64
import Derived.Test.YtanmnkbccfcagaaGreatDoorJGP01
import Derived.Lib.IndexMore
import Derived.Lib.ItoaNum
import Derived.ProofKit
import Derived.OpenShut
import Derived.SizedLaws
import Derived.Deep.Slices
import Derived.Lib.LaidTab
import Derived.Lib.ConvBytes
import Derived.Lib.Builder
import Derived.Lib.AppendStr
import Derived.Lib.UnsafeStr
import Derived.Lib.BufferWrite
import Derived.Deep.WholeRow
import Derived.WalkKit
set_option linter.unusedVariables false
set_option linter.unusedSimpArgs false
set_option linter.defProp false
set_option linter.unnecessarySimpa false
set_option maxHeartbeats 8000000
namespace Go.Proofs
open Go.Shelf
def Tryz.lays145_ren:Go.Shelf.Ren:=⟨fun|145=>73|220=>133|219=>198|217=>197|225=>240|224=>241|267=>242|266=>239|314=>274|n=>n,fun|9=>9|4=>4|59=>127|3=>3|5=>5|46=>262|146=>297|51=>28|n=>n,fun|1=>0|n=>n⟩
theorem Tryz.lays145:Go.Proofs.Lays.n145 Tryz.prog Tryz.lays145_ren:={
 mixed:=by kernel_rfl
 f145:=Tryz.func73.trans (congrArg some (by kernel_rfl))
 f217:=Tryz.func197.trans (congrArg some (by kernel_rfl))
 f219:=Tryz.func198.trans (congrArg some (by kernel_rfl))
 f220:=Tryz.func133.trans (congrArg some (by kernel_rfl))
 f224:=Tryz.func241.trans (congrArg some (by kernel_rfl))
 f225:=Tryz.func240.trans (congrArg some (by kernel_rfl))
 f266:=Tryz.func239.trans (congrArg some (by kernel_rfl))
 f267:=Tryz.func242.trans (congrArg some (by kernel_rfl))
 f314:=Tryz.func274.trans (congrArg some (by kernel_rfl))
 t3:=Tryz.underlying3
 a3:=Tryz.isAgg3
 z3:=Tryz.sizeOf3
 v3:=Tryz.zeroValue3
 t4:=Tryz.underlying4
 a4:=Tryz.isAgg4
 z4:=Tryz.sizeOf4
 v4:=Tryz.zeroValue4
 t5:=Tryz.underlying5
 a5:=Tryz.isAgg5
 z5:=Tryz.sizeOf5
 v5:=Tryz.zeroValue5
 t9:=Tryz.underlying9
 a9:=Tryz.isAgg9
 z9:=Tryz.sizeOf9
 v9:=Tryz.zeroValue9
 t46:=Tryz.underlying262
 a46:=Tryz.isAgg262
 z46:=Tryz.sizeOf262
 v46:=Tryz.zeroValue262
 t51:=Tryz.underlying28
 a51:=Tryz.isAgg28
 z51:=Tryz.sizeOf28
 v51:=Tryz.zeroValue28
 t59:=Tryz.underlying127
 a59:=Tryz.isAgg127
 z59:=Tryz.sizeOf127
 v59:=Tryz.zeroValue127
 t146:=Tryz.underlying297
 a146:=Tryz.isAgg297
 z146:=Tryz.sizeOf297
 v146:=Tryz.zeroValue297
 g1:=by kernel_rfl}
def Tryz.lays160_ren:Go.Shelf.Ren:=⟨fun|160=>134|232=>200|231=>199|227=>201|234=>203|233=>202|236=>205|235=>204|228=>243|271=>246|151=>245|197=>244|120=>277|152=>276|260=>275|137=>132|119=>286|224=>241|225=>240|217=>197|266=>239|n=>n,fun|9=>9|4=>4|3=>3|5=>5|117=>253|116=>252|0=>0|124=>256|21=>21|105=>285|46=>262|119=>321|139=>324|138=>323|n=>n,fun|3=>7|4=>8|n=>n⟩
theorem Tryz.lays160:Go.Proofs.Lays.n160 Tryz.prog Tryz.lays160_ren:={
 mixed:=by kernel_rfl
 f119:=Tryz.func286.trans (congrArg some (by kernel_rfl))
 f120:=Tryz.func277.trans (congrArg some (by kernel_rfl))
 f137:=Tryz.func132.trans (congrArg some (by kernel_rfl))
 f151:=Tryz.func245.trans (congrArg some (by kernel_rfl))
 f152:=Tryz.func276.trans (congrArg some (by kernel_rfl))
 f160:=Tryz.func134.trans (congrArg some (by kernel_rfl))
 f197:=Tryz.func244.trans (congrArg some (by kernel_rfl))
 f217:=Tryz.func197.trans (congrArg some (by kernel_rfl))
 f224:=Tryz.func241.trans (congrArg some (by kernel_rfl))
 f225:=Tryz.func240.trans (congrArg some (by kernel_rfl))
 f227:=Tryz.func201.trans (congrArg some (by kernel_rfl))
 f228:=Tryz.func243.trans (congrArg some (by kernel_rfl))
 f231:=Tryz.func199.trans (congrArg some (by kernel_rfl))
 f232:=Tryz.func200.trans (congrArg some (by kernel_rfl))
 f233:=Tryz.func202.trans (congrArg some (by kernel_rfl))
 f234:=Tryz.func203.trans (congrArg some (by kernel_rfl))
 f235:=Tryz.func204.trans (congrArg some (by kernel_rfl))
 f236:=Tryz.func205.trans (congrArg some (by kernel_rfl))
 f260:=Tryz.func275.trans (congrArg some (by kernel_rfl))
 f266:=Tryz.func239.trans (congrArg some (by kernel_rfl))
 f271:=Tryz.func246.trans (congrArg some (by kernel_rfl))
 t0:=Tryz.underlying0
 a0:=Tryz.isAgg0
 z0:=Tryz.sizeOf0
 v0:=Tryz.zeroValue0
 t3:=Tryz.underlying3
 a3:=Tryz.isAgg3
 z3:=Tryz.sizeOf3
 v3:=Tryz.zeroValue3
 t4:=Tryz.underlying4
 a4:=Tryz.isAgg4
 z4:=Tryz.sizeOf4
 v4:=Tryz.zeroValue4
 t5:=Tryz.underlying5
 a5:=Tryz.isAgg5
 z5:=Tryz.sizeOf5
 v5:=Tryz.zeroValue5
 t9:=Tryz.underlying9
 a9:=Tryz.isAgg9
 z9:=Tryz.sizeOf9
 v9:=Tryz.zeroValue9
 t21:=Tryz.underlying21
 a21:=Tryz.isAgg21
 z21:=Tryz.sizeOf21
 v21:=Tryz.zeroValue21
 t46:=Tryz.underlying262
 a46:=Tryz.isAgg262
 z46:=Tryz.sizeOf262
 v46:=Tryz.zeroValue262
 t105:=Tryz.underlying285
 a105:=Tryz.isAgg285
 z105:=Tryz.sizeOf285
 v105:=Tryz.zeroValue285
 t116:=Tryz.underlying252
 a116:=Tryz.isAgg252
 z116:=Tryz.sizeOf252
 t117:=Tryz.underlying253
 a117:=Tryz.isAgg253
 z117:=Tryz.sizeOf253
 v117:=Tryz.zeroValue253
 t119:=Tryz.underlying321
 a119:=Tryz.isAgg321
 z119:=Tryz.sizeOf321
 t124:=Tryz.underlying256
 a124:=Tryz.isAgg256
 z124:=Tryz.sizeOf256
 v124:=Tryz.zeroValue256
 t138:=Tryz.underlying323
 a138:=Tryz.isAgg323
 z138:=Tryz.sizeOf323
 v138:=Tryz.zeroValue323
 t139:=Tryz.underlying324
 a139:=Tryz.isAgg324
 z139:=Tryz.sizeOf324
 v139:=Tryz.zeroValue324
 g3:=by kernel_rfl
 g4:=by kernel_rfl}
def Tryz.lays99_ren:Go.Shelf.Ren:=⟨fun|99=>79|206=>138|n=>n,fun|9=>9|4=>4|3=>3|n=>n,fun|n=>n⟩
theorem Tryz.lays99:Go.Proofs.Lays.n99 Tryz.prog Tryz.lays99_ren:={
 mixed:=by kernel_rfl
 f99:=Tryz.func79.trans (congrArg some (by kernel_rfl))
 f206:=Tryz.func138.trans (congrArg some (by kernel_rfl))
 t3:=Tryz.underlying3
 a3:=Tryz.isAgg3
 z3:=Tryz.sizeOf3
 v3:=Tryz.zeroValue3
 t4:=Tryz.underlying4
 a4:=Tryz.isAgg4
 z4:=Tryz.sizeOf4
 v4:=Tryz.zeroValue4
 t9:=Tryz.underlying9
 a9:=Tryz.isAgg9
 z9:=Tryz.sizeOf9
 v9:=Tryz.zeroValue9}
def Tryz.lays103_ren:Go.Shelf.Ren:=⟨fun|103=>209|210=>256|206=>138|n=>n,fun|9=>9|4=>4|24=>196|3=>3|n=>n,fun|n=>n⟩
theorem Tryz.lays103:Go.Proofs.Lays.n103 Tryz.prog Tryz.lays103_ren:={
 mixed:=by kernel_rfl
 f103:=Tryz.func209.trans (congrArg some (by kernel_rfl))
 f206:=Tryz.func138.trans (congrArg some (by kernel_rfl))
 f210:=Tryz.func256.trans (congrArg some (by kernel_rfl))
 t3:=Tryz.underlying3
 a3:=Tryz.isAgg3
 z3:=Tryz.sizeOf3
 v3:=Tryz.zeroValue3
 t4:=Tryz.underlying4
 a4:=Tryz.isAgg4
 z4:=Tryz.sizeOf4
 v4:=Tryz.zeroValue4
 t9:=Tryz.underlying9
 a9:=Tryz.isAgg9
 z9:=Tryz.sizeOf9
 v9:=Tryz.zeroValue9
 t24:=Tryz.underlying196
 a24:=Tryz.isAgg196
 z24:=Tryz.sizeOf196
 v24:=Tryz.zeroValue196}
def Tryz.lays146_ren:Go.Shelf.Ren:=⟨fun|146=>139|221=>208|268=>253|138=>254|143=>255|195=>280|197=>244|218=>281|219=>198|260=>275|217=>197|225=>240|224=>241|267=>242|266=>239|314=>274|n=>n,fun|9=>9|31=>23|3=>3|4=>4|0=>0|105=>285|21=>21|5=>5|46=>262|119=>321|139=>324|138=>323|146=>297|51=>28|n=>n,fun|1=>0|3=>7|4=>8|n=>n⟩
theorem Tryz.lays146:Go.Proofs.Lays.n146 Tryz.prog Tryz.lays146_ren:={
 mixed:=by kernel_rfl
 f138:=Tryz.func254.trans (congrArg some (by kernel_rfl))
 f143:=Tryz.func255.trans (congrArg some (by kernel_rfl))
 f146:=Tryz.func139.trans (congrArg some (by kernel_rfl))
 f195:=Tryz.func280.trans (congrArg some (by kernel_rfl))
 f197:=Tryz.func244.trans (congrArg some (by kernel_rfl))
 f217:=Tryz.func197.trans (congrArg some (by kernel_rfl))
 f218:=Tryz.func281.trans (congrArg some (by kernel_rfl))
 f219:=Tryz.func198.trans (congrArg some (by kernel_rfl))
 f221:=Tryz.func208.trans (congrArg some (by kernel_rfl))
 f224:=Tryz.func241.trans (congrArg some (by kernel_rfl))
 f225:=Tryz.func240.trans (congrArg some (by kernel_rfl))
 f260:=Tryz.func275.trans (congrArg some (by kernel_rfl))
 f266:=Tryz.func239.trans (congrArg some (by kernel_rfl))
 f267:=Tryz.func242.trans (congrArg some (by kernel_rfl))
 f268:=Tryz.func253.trans (congrArg some (by kernel_rfl))
 f314:=Tryz.func274.trans (congrArg some (by kernel_rfl))
 t0:=Tryz.underlying0
 a0:=Tryz.isAgg0
 z0:=Tryz.sizeOf0
 v0:=Tryz.zeroValue0
 t3:=Tryz.underlying3
 a3:=Tryz.isAgg3
 z3:=Tryz.sizeOf3
 v3:=Tryz.zeroValue3
 t4:=Tryz.underlying4
 a4:=Tryz.isAgg4
 z4:=Tryz.sizeOf4
 v4:=Tryz.zeroValue4
 t5:=Tryz.underlying5
 a5:=Tryz.isAgg5
 z5:=Tryz.sizeOf5
 v5:=Tryz.zeroValue5
 t9:=Tryz.underlying9
 a9:=Tryz.isAgg9
 z9:=Tryz.sizeOf9
 v9:=Tryz.zeroValue9
 t21:=Tryz.underlying21
 a21:=Tryz.isAgg21
 z21:=Tryz.sizeOf21
 v21:=Tryz.zeroValue21
 t31:=Tryz.underlying23
 a31:=Tryz.isAgg23
 z31:=Tryz.sizeOf23
 v31:=Tryz.zeroValue23
 t46:=Tryz.underlying262
 a46:=Tryz.isAgg262
 z46:=Tryz.sizeOf262
 v46:=Tryz.zeroValue262
 t51:=Tryz.underlying28
 a51:=Tryz.isAgg28
 z51:=Tryz.sizeOf28
 v51:=Tryz.zeroValue28
 t105:=Tryz.underlying285
 a105:=Tryz.isAgg285
 z105:=Tryz.sizeOf285
 v105:=Tryz.zeroValue285
 t119:=Tryz.underlying321
 a119:=Tryz.isAgg321
 z119:=Tryz.sizeOf321
 t138:=Tryz.underlying323
 a138:=Tryz.isAgg323
 z138:=Tryz.sizeOf323
 v138:=Tryz.zeroValue323
 t139:=Tryz.underlying324
 a139:=Tryz.isAgg324
 z139:=Tryz.sizeOf324
 v139:=Tryz.zeroValue324
 t146:=Tryz.underlying297
 a146:=Tryz.isAgg297
 z146:=Tryz.sizeOf297
 v146:=Tryz.zeroValue297
 g1:=by kernel_rfl
 g3:=by kernel_rfl
 g4:=by kernel_rfl}
def Tryz.lays212_ren:Go.Shelf.Ren:=⟨fun|212=>213|263=>261|264=>262|n=>n,fun|46=>262|51=>28|146=>297|53=>114|148=>299|n=>n,fun|n=>n⟩
theorem Tryz.lays212:Go.Proofs.Lays.n212 Tryz.prog Tryz.lays212_ren:={
 mixed:=by kernel_rfl
 f212:=Tryz.func213.trans (congrArg some (by kernel_rfl))
 f263:=Tryz.func261.trans (congrArg some (by kernel_rfl))
 f264:=Tryz.func262.trans (congrArg some (by kernel_rfl))
 t46:=Tryz.underlying262
 a46:=Tryz.isAgg262
 z46:=Tryz.sizeOf262
 v46:=Tryz.zeroValue262
 t51:=Tryz.underlying28
 a51:=Tryz.isAgg28
 z51:=Tryz.sizeOf28
 v51:=Tryz.zeroValue28
 t53:=Tryz.underlying114
 a53:=Tryz.isAgg114
 z53:=Tryz.sizeOf114
 v53:=Tryz.zeroValue114
 t146:=Tryz.underlying297
 a146:=Tryz.isAgg297
 z146:=Tryz.sizeOf297
 v146:=Tryz.zeroValue297
 t148:=Tryz.underlying299
 a148:=Tryz.isAgg299
 z148:=Tryz.sizeOf299
 v148:=Tryz.zeroValue299}
def Tryz.laysPu14_ren:Go.Shelf.Ren:=⟨fun|14=>135|16=>206|17=>207|19=>247|20=>248|21=>249|22=>250|23=>251|24=>252|25=>278|27=>82|26=>279|28=>145|29=>210|30=>191|31=>192|32=>193|33=>194|35=>233|34=>232|36=>234|37=>235|38=>236|39=>271|40=>272|n=>n,fun|9=>9|3=>3|22=>114|24=>108|25=>209|4=>4|34=>288|5=>5|36=>262|37=>31|0=>0|39=>290|21=>21|44=>312|47=>200|50=>328|48=>326|2=>2|52=>239|55=>242|59=>280|60=>28|20=>20|61=>281|65=>319|66=>320|67=>121|n=>n,fun|0=>2|1=>3|2=>1|3=>5|4=>6|n=>n⟩
theorem Tryz.laysPu14:Go.Proofs.LaysPu.n14 Tryz.prog Tryz.laysPu14_ren:={
 mixed:=by kernel_rfl
 f14:=Tryz.func135.trans (congrArg some (by kernel_rfl))
 f16:=Tryz.func206.trans (congrArg some (by kernel_rfl))
 f17:=Tryz.func207.trans (congrArg some (by kernel_rfl))
 f19:=Tryz.func247.trans (congrArg some (by kernel_rfl))
 f20:=Tryz.func248.trans (congrArg some (by kernel_rfl))
 f21:=Tryz.func249.trans (congrArg some (by kernel_rfl))
 f22:=Tryz.func250.trans (congrArg some (by kernel_rfl))
 f23:=Tryz.func251.trans (congrArg some (by kernel_rfl))
 f24:=Tryz.func252.trans (congrArg some (by kernel_rfl))
 f25:=Tryz.func278.trans (congrArg some (by kernel_rfl))
 f26:=Tryz.func279.trans (congrArg some (by kernel_rfl))
 f27:=Tryz.func82.trans (congrArg some (by kernel_rfl))
 f28:=Tryz.func145.trans (congrArg some (by kernel_rfl))
 f29:=Tryz.func210.trans (congrArg some (by kernel_rfl))
 f30:=Tryz.func191.trans (congrArg some (by kernel_rfl))
 f31:=Tryz.func192.trans (congrArg some (by kernel_rfl))
 f32:=Tryz.func193.trans (congrArg some (by kernel_rfl))
 f33:=Tryz.func194.trans (congrArg some (by kernel_rfl))
 f34:=Tryz.func232.trans (congrArg some (by kernel_rfl))
 f35:=Tryz.func233.trans (congrArg some (by kernel_rfl))
 f36:=Tryz.func234.trans (congrArg some (by kernel_rfl))
 f37:=Tryz.func235.trans (congrArg some (by kernel_rfl))
 f38:=Tryz.func236.trans (congrArg some (by kernel_rfl))
 f39:=Tryz.func271.trans (congrArg some (by kernel_rfl))
 f40:=Tryz.func272.trans (congrArg some (by kernel_rfl))
 t0:=Tryz.underlying0
 a0:=Tryz.isAgg0
 z0:=Tryz.sizeOf0
 v0:=Tryz.zeroValue0
 i0:=by kernel_rfl
 t2:=Tryz.underlying2
 a2:=Tryz.isAgg2
 z2:=Tryz.sizeOf2
 v2:=Tryz.zeroValue2
 i2:=by kernel_rfl
 t3:=Tryz.underlying3
 a3:=Tryz.isAgg3
 z3:=Tryz.sizeOf3
 v3:=Tryz.zeroValue3
 i3:=by kernel_rfl
 t4:=Tryz.underlying4
 a4:=Tryz.isAgg4
 z4:=Tryz.sizeOf4
 v4:=Tryz.zeroValue4
 i4:=by kernel_rfl
 t5:=Tryz.underlying5
 a5:=Tryz.isAgg5
 z5:=Tryz.sizeOf5
 v5:=Tryz.zeroValue5
 i5:=by kernel_rfl
 t9:=Tryz.underlying9
 a9:=Tryz.isAgg9
 z9:=Tryz.sizeOf9
 v9:=Tryz.zeroValue9
 i9:=by kernel_rfl
 t20:=Tryz.underlying20
 a20:=Tryz.isAgg20
 z20:=Tryz.sizeOf20
 v20:=Tryz.zeroValue20
 i20:=by kernel_rfl
 t21:=Tryz.underlying21
 a21:=Tryz.isAgg21
 z21:=Tryz.sizeOf21
 v21:=Tryz.zeroValue21
 i21:=by kernel_rfl
 t22:=Tryz.underlying114
 a22:=Tryz.isAgg114
 z22:=Tryz.sizeOf114
 v22:=Tryz.zeroValue114
 i22:=by kernel_rfl
 t24:=Tryz.underlying108
 a24:=Tryz.isAgg108
 z24:=Tryz.sizeOf108
 v24:=Tryz.zeroValue108
 i24:=by kernel_rfl
 t25:=Tryz.underlying209
 a25:=Tryz.isAgg209
 z25:=Tryz.sizeOf209
 v25:=Tryz.zeroValue209
 i25:=by kernel_rfl
 t34:=Tryz.underlying288
 a34:=Tryz.isAgg288
 z34:=Tryz.sizeOf288
 v34:=Tryz.zeroValue288
 i34:=by kernel_rfl
 c34:=by kernel_rfl
 t36:=Tryz.underlying262
 a36:=Tryz.isAgg262
 z36:=Tryz.sizeOf262
 v36:=Tryz.zeroValue262
 i36:=by kernel_rfl
 t37:=Tryz.underlying31
 a37:=Tryz.isAgg31
 z37:=Tryz.sizeOf31
 v37:=Tryz.zeroValue31
 i37:=by kernel_rfl
 t39:=Tryz.underlying290
 a39:=Tryz.isAgg290
 z39:=Tryz.sizeOf290
 v39:=Tryz.zeroValue290
 i39:=by kernel_rfl
 t44:=Tryz.underlying312
 a44:=Tryz.isAgg312
 z44:=Tryz.sizeOf312
 v44:=Tryz.zeroValue312
 i44:=by kernel_rfl
 t47:=Tryz.underlying200
 a47:=Tryz.isAgg200
 z47:=Tryz.sizeOf200
 v47:=Tryz.zeroValue200
 i47:=by kernel_rfl
 t48:=Tryz.underlying326
 a48:=Tryz.isAgg326
 z48:=Tryz.sizeOf326
 v48:=Tryz.zeroValue326
 i48:=by kernel_rfl
 t50:=Tryz.underlying328
 a50:=Tryz.isAgg328
 z50:=Tryz.sizeOf328
 v50:=Tryz.zeroValue328
 i50:=by kernel_rfl
 t52:=Tryz.underlying239
 a52:=Tryz.isAgg239
 z52:=Tryz.sizeOf239
 v52:=Tryz.zeroValue239
 i52:=by kernel_rfl
 t55:=Tryz.underlying242
 a55:=Tryz.isAgg242
 z55:=Tryz.sizeOf242
 v55:=Tryz.zeroValue242
 i55:=by kernel_rfl
 t59:=Tryz.underlying280
 a59:=Tryz.isAgg280
 z59:=Tryz.sizeOf280
 v59:=Tryz.zeroValue280
 i59:=by kernel_rfl
 t60:=Tryz.underlying28
 a60:=Tryz.isAgg28
 z60:=Tryz.sizeOf28
 v60:=Tryz.zeroValue28
 i60:=by kernel_rfl
 t61:=Tryz.underlying281
 a61:=Tryz.isAgg281
 z61:=Tryz.sizeOf281
 t65:=Tryz.underlying319
 a65:=Tryz.isAgg319
 z65:=Tryz.sizeOf319
 v65:=Tryz.zeroValue319
 i65:=by kernel_rfl
 t66:=Tryz.underlying320
 a66:=Tryz.isAgg320
 z66:=Tryz.sizeOf320
 v66:=Tryz.zeroValue320
 i66:=by kernel_rfl
 t67:=Tryz.underlying121
 a67:=Tryz.isAgg121
 z67:=Tryz.sizeOf121
 v67:=Tryz.zeroValue121
 i67:=by kernel_rfl
 g0:=by kernel_rfl
 m0:=by kernel_rfl
 g1:=by kernel_rfl
 m1:=by kernel_rfl
 g2:=by kernel_rfl
 m2:=by kernel_rfl
 g3:=by kernel_rfl
 m3:=by kernel_rfl
 g4:=by kernel_rfl
 m4:=by kernel_rfl}
def Tryz.laysM171_ren:Go.Shelf.Ren:=⟨fun|171=>82|243=>145|246=>210|283=>191|284=>192|285=>193|286=>194|129=>233|317=>232|318=>234|319=>235|320=>236|337=>271|338=>272|n=>n,fun|3=>3|9=>9|2=>2|4=>4|171=>239|0=>0|53=>114|37=>31|5=>5|173=>242|212=>280|51=>28|20=>20|213=>281|46=>262|232=>319|233=>320|n=>n,fun|17=>1|18=>5|19=>6|n=>n⟩
theorem Tryz.laysM171:Go.Proofs.LaysM.n171 Tryz.prog Tryz.laysM171_ren:={
 mixed:=by kernel_rfl
 f129:=Tryz.func233.trans (congrArg some (by kernel_rfl))
 f171:=Tryz.func82.trans (congrArg some (by kernel_rfl))
 f243:=Tryz.func145.trans (congrArg some (by kernel_rfl))
 f246:=Tryz.func210.trans (congrArg some (by kernel_rfl))
 f283:=Tryz.func191.trans (congrArg some (by kernel_rfl))
 f284:=Tryz.func192.trans (congrArg some (by kernel_rfl))
 f285:=Tryz.func193.trans (congrArg some (by kernel_rfl))
 f286:=Tryz.func194.trans (congrArg some (by kernel_rfl))
 f317:=Tryz.func232.trans (congrArg some (by kernel_rfl))
 f318:=Tryz.func234.trans (congrArg some (by kernel_rfl))
 f319:=Tryz.func235.trans (congrArg some (by kernel_rfl))
 f320:=Tryz.func236.trans (congrArg some (by kernel_rfl))
 f337:=Tryz.func271.trans (congrArg some (by kernel_rfl))
 f338:=Tryz.func272.trans (congrArg some (by kernel_rfl))
 t0:=Tryz.underlying0
 a0:=Tryz.isAgg0
 z0:=Tryz.sizeOf0
 v0:=Tryz.zeroValue0
 t2:=Tryz.underlying2
 a2:=Tryz.isAgg2
 z2:=Tryz.sizeOf2
 v2:=Tryz.zeroValue2
 t3:=Tryz.underlying3
 a3:=Tryz.isAgg3
 z3:=Tryz.sizeOf3
 v3:=Tryz.zeroValue3
 t4:=Tryz.underlying4
 a4:=Tryz.isAgg4
 z4:=Tryz.sizeOf4
 v4:=Tryz.zeroValue4
 t5:=Tryz.underlying5
 a5:=Tryz.isAgg5
 z5:=Tryz.sizeOf5
 v5:=Tryz.zeroValue5
 t9:=Tryz.underlying9
 a9:=Tryz.isAgg9
 z9:=Tryz.sizeOf9
 v9:=Tryz.zeroValue9
 t20:=Tryz.underlying20
 a20:=Tryz.isAgg20
 z20:=Tryz.sizeOf20
 v20:=Tryz.zeroValue20
 t37:=Tryz.underlying31
 a37:=Tryz.isAgg31
 z37:=Tryz.sizeOf31
 v37:=Tryz.zeroValue31
 t46:=Tryz.underlying262
 a46:=Tryz.isAgg262
 z46:=Tryz.sizeOf262
 v46:=Tryz.zeroValue262
 t51:=Tryz.underlying28
 a51:=Tryz.isAgg28
 z51:=Tryz.sizeOf28
 v51:=Tryz.zeroValue28
 t53:=Tryz.underlying114
 a53:=Tryz.isAgg114
 z53:=Tryz.sizeOf114
 v53:=Tryz.zeroValue114
 t171:=Tryz.underlying239
 a171:=Tryz.isAgg239
 z171:=Tryz.sizeOf239
 v171:=Tryz.zeroValue239
 t173:=Tryz.underlying242
 a173:=Tryz.isAgg242
 z173:=Tryz.sizeOf242
 v173:=Tryz.zeroValue242
 t212:=Tryz.underlying280
 a212:=Tryz.isAgg280
 z212:=Tryz.sizeOf280
 v212:=Tryz.zeroValue280
 t213:=Tryz.underlying281
 a213:=Tryz.isAgg281
 z213:=Tryz.sizeOf281
 t232:=Tryz.underlying319
 a232:=Tryz.isAgg319
 z232:=Tryz.sizeOf319
 v232:=Tryz.zeroValue319
 t233:=Tryz.underlying320
 a233:=Tryz.isAgg320
 z233:=Tryz.sizeOf320
 v233:=Tryz.zeroValue320
 g17:=by kernel_rfl
 g18:=by kernel_rfl
 g19:=by kernel_rfl
 i0:=by kernel_rfl
 i2:=by kernel_rfl
 i3:=by kernel_rfl
 i4:=by kernel_rfl
 i5:=by kernel_rfl
 i9:=by kernel_rfl
 i20:=by kernel_rfl
 i37:=by kernel_rfl
 i46:=by kernel_rfl
 i51:=by kernel_rfl
 i53:=by kernel_rfl
 i171:=by kernel_rfl
 i173:=by kernel_rfl
 i212:=by kernel_rfl
 i232:=by kernel_rfl
 i233:=by kernel_rfl
 m17:=by kernel_rfl
 m18:=by kernel_rfl
 m19:=by kernel_rfl}
def Tryz.laysM173_ren:Go.Shelf.Ren:=⟨fun|173=>142|246=>210|283=>191|284=>192|285=>193|286=>194|129=>233|317=>232|318=>234|319=>235|320=>236|337=>271|338=>272|n=>n,fun|2=>2|3=>3|9=>9|4=>4|171=>239|0=>0|53=>114|37=>31|5=>5|173=>242|212=>280|51=>28|20=>20|213=>281|46=>262|232=>319|233=>320|n=>n,fun|17=>1|18=>5|19=>6|n=>n⟩
theorem Tryz.laysM173:Go.Proofs.LaysM.n173 Tryz.prog Tryz.laysM173_ren:={
 mixed:=by kernel_rfl
 f129:=Tryz.func233.trans (congrArg some (by kernel_rfl))
 f173:=Tryz.func142.trans (congrArg some (by kernel_rfl))
 f246:=Tryz.func210.trans (congrArg some (by kernel_rfl))
 f283:=Tryz.func191.trans (congrArg some (by kernel_rfl))
 f284:=Tryz.func192.trans (congrArg some (by kernel_rfl))
 f285:=Tryz.func193.trans (congrArg some (by kernel_rfl))
 f286:=Tryz.func194.trans (congrArg some (by kernel_rfl))
 f317:=Tryz.func232.trans (congrArg some (by kernel_rfl))
 f318:=Tryz.func234.trans (congrArg some (by kernel_rfl))
 f319:=Tryz.func235.trans (congrArg some (by kernel_rfl))
 f320:=Tryz.func236.trans (congrArg some (by kernel_rfl))
 f337:=Tryz.func271.trans (congrArg some (by kernel_rfl))
 f338:=Tryz.func272.trans (congrArg some (by kernel_rfl))
 t0:=Tryz.underlying0
 a0:=Tryz.isAgg0
 z0:=Tryz.sizeOf0
 v0:=Tryz.zeroValue0
 t2:=Tryz.underlying2
 a2:=Tryz.isAgg2
 z2:=Tryz.sizeOf2
 v2:=Tryz.zeroValue2
 t3:=Tryz.underlying3
 a3:=Tryz.isAgg3
 z3:=Tryz.sizeOf3
 v3:=Tryz.zeroValue3
 t4:=Tryz.underlying4
 a4:=Tryz.isAgg4
 z4:=Tryz.sizeOf4
 v4:=Tryz.zeroValue4
 t5:=Tryz.underlying5
 a5:=Tryz.isAgg5
 z5:=Tryz.sizeOf5
 v5:=Tryz.zeroValue5
 t9:=Tryz.underlying9
 a9:=Tryz.isAgg9
 z9:=Tryz.sizeOf9
 v9:=Tryz.zeroValue9
 t20:=Tryz.underlying20
 a20:=Tryz.isAgg20
 z20:=Tryz.sizeOf20
 v20:=Tryz.zeroValue20
 t37:=Tryz.underlying31
 a37:=Tryz.isAgg31
 z37:=Tryz.sizeOf31
 v37:=Tryz.zeroValue31
 t46:=Tryz.underlying262
 a46:=Tryz.isAgg262
 z46:=Tryz.sizeOf262
 v46:=Tryz.zeroValue262
 t51:=Tryz.underlying28
 a51:=Tryz.isAgg28
 z51:=Tryz.sizeOf28
 v51:=Tryz.zeroValue28
 t53:=Tryz.underlying114
 a53:=Tryz.isAgg114
 z53:=Tryz.sizeOf114
 v53:=Tryz.zeroValue114
 t171:=Tryz.underlying239
 a171:=Tryz.isAgg239
 z171:=Tryz.sizeOf239
 v171:=Tryz.zeroValue239
 t173:=Tryz.underlying242
 a173:=Tryz.isAgg242
 z173:=Tryz.sizeOf242
 v173:=Tryz.zeroValue242
 t212:=Tryz.underlying280
 a212:=Tryz.isAgg280
 z212:=Tryz.sizeOf280
 v212:=Tryz.zeroValue280
 t213:=Tryz.underlying281
 a213:=Tryz.isAgg281
 z213:=Tryz.sizeOf281
 t232:=Tryz.underlying319
 a232:=Tryz.isAgg319
 z232:=Tryz.sizeOf319
 v232:=Tryz.zeroValue319
 t233:=Tryz.underlying320
 a233:=Tryz.isAgg320
 z233:=Tryz.sizeOf320
 v233:=Tryz.zeroValue320
 g17:=by kernel_rfl
 g18:=by kernel_rfl
 g19:=by kernel_rfl
 i0:=by kernel_rfl
 i2:=by kernel_rfl
 i3:=by kernel_rfl
 i4:=by kernel_rfl
 i5:=by kernel_rfl
 i9:=by kernel_rfl
 i20:=by kernel_rfl
 i37:=by kernel_rfl
 i46:=by kernel_rfl
 i51:=by kernel_rfl
 i53:=by kernel_rfl
 i171:=by kernel_rfl
 i173:=by kernel_rfl
 i212:=by kernel_rfl
 i232:=by kernel_rfl
 i233:=by kernel_rfl
 m17:=by kernel_rfl
 m18:=by kernel_rfl
 m19:=by kernel_rfl}
end Go.Proofs
namespace Go.Proofs.YtanmnkbccfcagaaGreatDoor
open Go
def Own(B:Nat)(w:World)(e:TypeId)(v:Value)(l:List Value):Prop:=w.ownsRow B e 1 v l.length l
section
variable {P : Program} {d : Option Tmp} {ty : TypeId} {ps : String} {af : Array Edge} {g : Option (Nat × Bool)} {ρ : Operand → Value} {w : World} {K : Value → World → Prop}
theorem Own.slice{B:Nat}{e:TypeId}{v:Value}{l:List Value}(h:Own B w e v l):∃a c,v= .slice a l.length c:=by
 rcases h.2 with ⟨rfl,h0⟩| ⟨g,cap,cur,rfl,_⟩
 ·exact⟨_,_,by rw[h0]⟩
 ·exact⟨_,_,rfl⟩
theorem Own.row{B:Nat}{e:TypeId}{v:Value}{l:List Value}(h:Own B w e v l):Row w v l:=Row.of_owns h
theorem Own.nil(B:Nat)(w:World)(e:TypeId):Own B w e (.slice Option.none 0 0) []:=⟨rfl,.inl ⟨rfl,rfl⟩⟩
theorem Own.ge{B:Nat}{e:TypeId}{v:Value}{l:List Value}(h:Own B w e v l){b:Nat}(hb:some b=v.ownBlock):B≤b∧b<w.heap.size:=by
 rcases h.2 with ⟨rfl,_⟩| ⟨g,cap,cur,rfl,hg,hc,_⟩
 ·cases hb
 ·cases hb;exact⟨hg,(Array.getElem?_eq_some_iff.1 hc).1⟩
theorem Own.keep{B:Nat}{e:TypeId}{v:Value}{l:List Value}{x:World}{S:Nat→Prop}(h:Own B w e v l)(hk:Keep S w x)(hS:∀b,some b=v.ownBlock→¬S b):Own B x e v l:=by
 obtain⟨h1,h2⟩:=h
 refine⟨h1,?_⟩
 rcases h2 with h2| ⟨g,cap,cur,hv,hb,hg,rest⟩
 ·exact .inl h2
 ·exact .inr ⟨g,cap,cur,hv,hb,(hk.block _ (Array.getElem?_eq_some_iff.1 hg).1 (hS _ (by rw[hv];rfl))).trans hg,rest⟩
theorem Own.ext{B:Nat}{e:TypeId}{v:Value}{l:List Value}{x:World}(h:Own B w e v l)(hk:Ext w x):Own B x e v l:=h.keep hk (fun _ _ h=>h)
theorem Own.mono{B B':Nat}{e:TypeId}{v:Value}{l:List Value}(h:Own B w e v l)(hB:B'≤B):Own B' w e v l:=by
 obtain⟨h1,h2⟩:=h
 refine⟨h1,?_⟩
 rcases h2 with h2| ⟨g,cap,cur,hv,hb,rest⟩
 ·exact .inl h2
 ·exact .inr ⟨g,cap,cur,hv,by omega,rest⟩
theorem zc2{t e:TypeId}{z v:Value}(hu:tyU P t=some (.slice e))(hz:tyZ P e=some z)(hs:tyS P e=1)(hz1:z.cells=#[z])(hv:v.cells=#[v])
  (h:∀w1,Ext w w1→w1.heap.size=w.heap.size+1→Own w.heap.size w1 e (.slice (some ⟨w.heap.size,0,Option.none⟩) 1 1) [v]→K (.slice (some ⟨w.heap.size,0,Option.none⟩) 1 1) w1):bsL P t 1 [(0,v)] w K .mk:=by
 unfold bsL bsK
 rw[bsC_one hu hz hs hz1 hv]
 exact h _ (Ext.alloc w _) (zbw w _) ⟨rfl,.inr ⟨w.heap.size,1,#[v],rfl,Nat.le_refl _,zaT w _,Nat.le_refl _,by decide,rfl,rfl⟩⟩
theorem op_app{B:Nat}{s x:Operand}{t e:TypeId}{inf:TypeInfo}{z:Value}{bytes:Nat}{v u:Value}{l news:List Value}(hown:Own B w e v l)(hrow:Row w u news)
  (ht:tyU P t=some (.slice e)) (hi:P.info? e=some inf) (hz:inf.zero=some z)
  (hsize:inf.size=1) (hby:inf.bytes=bytes) (hzs:z.cells.size=1) (hv:ρ s=v) (hu:ρ x=u) 
  (h1:∀q∈news,one q=true) (hlen:l.length+news.length≤1000000000000) (hbytes:bytes≤100) (hB:B≤w.heap.size)
  (h:∀v' w',Own B w' e v' (l++news)→(∀w0,Ext w0 w→w0.heap.size≤B→Ext w0 w')→Keep (fun b=>some b=v.ownBlock) w w'→(∀b,some b=v'.ownBlock→some b=v.ownBlock∨w.heap.size≤b)→K v' w'):
  opW P ⟨d,.call ⟨.builtin .append,#[s,x],#[t,t]⟩,ty,ps,af,g⟩ ρ w K:=by
 refine zdM (B:=B) (m:=news.length) (xs:=l) (n:=l.length) ht hi hz hsize hby hzs (by decide) hv hu hown (Src1.of_row hrow) h1 (by simp[maxLen];omega) ?_ hB ?_
 ·have:(l.length+news.length)*bytes≤1000000000000*100:=Nat.mul_le_mul hlen hbytes
  omega
 ·intro v' w' ho hk hw
  refine h v' w' (by simpa [Own] using ho) (fun w0 hE hB0=>?_) hk hw.2
  exact Keep.to_ext hE rfl (fun b hb=>by have:=(Own.ge (l:=l) hown hb).1;omega) hk
theorem v_min(a:Array Operand)(t:Array TypeId):opV P ⟨d,.call ⟨.builtin .min,a,t⟩,ty,ps,af,g⟩ ρ w K=opL P ⟨d,.call ⟨.builtin .min,a,t⟩,ty,ps,af,g⟩ ρ w K .mk:=nr rfl
end
attribute [go_sem] b_quo b_rem
attribute [go_sem ↓] v_min
set_option maxRecDepth 10000
def digB(c:UInt8):Bool:=decide (48≤c.toNat) && decide (c.toNat≤57)
def valD(l:Lab):Nat:=l.foldl (fun n c=>10*n+(c.toNat - 48)) 0
def zdg(l:Lab):Bool:=!l.isEmpty && (l.all digB && !(decide (1<l.length) && decide (l.head? =some 48)))
def cutB(c:UInt8):Lab→Lab×Lab×Bool
 | []=>([],[],false)
 |b::l=>if b=c then([],l,true) else(b::(cutB c l).1,(cutB c l).2.1,(cutB c l).2.2)
theorem zdd(b c:UInt8)(l:Lab):Lib.index (b::l) [c]=if b=c then 0 else if Lib.index l [c]= -1 then -1 else Lib.index l [c]+1:=by
 rw[Lib.index]
 have e:[c].isPrefixOf (b::l)=decide (b=c):=by
  simp only[List.isPrefixOf,Bool.and_true]
  by_cases h:b=c
  ·subst h;simp
  ·rw[decide_eq_false h];simpa using fun h'=>h h'.symm
 rw[e]
 by_cases h:b=c
 ·simp[h]
 ·simp[h]
theorem zeb(c:UInt8):∀s:Lab,Lib.cut s [c]=cutB c s
 | []=>by unfold Lib.cut cutB;simp[Lib.index]
 |b::l=>by
  have ih:=zeb c l
  have hg:=Lib.index_ge l [c]
  unfold Lib.cut at ih ⊢
  unfold cutB
  rw[zdd]
  by_cases h:b=c
  ·rw[if_pos h,if_pos h];simp
  ·rw[if_neg h,if_neg h]
   by_cases hi:Lib.index l [c]= -1
   ·rw[if_pos hi]
    rw[hi]at ih
    rw[←ih]
    simp
   ·rw[if_neg hi]
    have h0:0≤Lib.index l [c]:=by omega
    rw[if_pos h0]at ih
    rw[if_pos (by omega),←ih]
    obtain⟨k,hk⟩:=Int.eq_ofNat_of_zero_le h0
    rw[hk]
    have e:((k:Int)+1).toNat=k+1:=by omega
    rw[e,Int.toNat_natCast]
    simp[Nat.add_right_comm]
theorem zby(c:UInt8):∀s:Lab,(cutB c s).1.length≤s.length∧(cutB c s).2.1.length≤s.length
 | []=>by simp[cutB]
 |b::l=>by
  have ih:=zby c l
  unfold cutB
  split
  ·simp
  ·simp only[List.length_cons];omega
def decP(most:Nat)(s:Lab):Nat×Int:=if zdg s then(if valD s≤most then(valD s,0) else(0,7)) else(0,2)
def zab:Nat:=2147483647
def zau(s:Lab):(Nat×Nat×Nat)×Int:=
 let x:=cutB 47 s
 let y:=cutB 45 x.1
 let a:=decP zab y.1
 let b:=decP zab y.2.1
 let d:=decP zab (if x.2.2 then x.2.1 else [49])
 if y.2.2=false then((0,0,0),2)
 else if a.2=2∨b.2=2∨d.2=2 then((0,0,0),2)
 else if a.2=7∨b.2=7∨d.2=7 then((0,0,0),7)
 else if a.1≤b.1∧1≤d.1 then((a.1,b.1,d.1),0) else((0,0,0),1)
def zaP(a b d:Nat):List Int:=(List.range ((b - a) / d+1)).map fun i=>((a+i*d:Nat):Int)
theorem zcn(a b d:Nat):(zaP a b d).length=(b - a) / d+1:=by unfold zaP;simp
theorem zdR{a b d i:Nat}(h:i<(zaP a b d).length):(zaP a b d)[i]=((a+i*d:Nat):Int):=by unfold zaP;simp
theorem zdP{a b d i:Nat}(hd:1≤d)(hi:a+i*d≤b):i≤(b - a) / d:=by
 rw[Nat.le_div_iff_mul_le (by omega)]
 omega
theorem zdQ{a b d i:Nat}(hd:1≤d)(hab:a≤b)(hi:i≤(b - a) / d):a+i*d≤b:=by
 rw[Nat.le_div_iff_mul_le (by omega)]at hi
 omega
section
variable {A B C D E F G H I : Prop}
theorem an2(a:A)(b:B):A∧B:=⟨a,b⟩
theorem an3(a:A)(b:B)(c:C):A∧B∧C:=⟨a,b,c⟩
theorem an4(a:A)(b:B)(c:C)(d:D):A∧B∧C∧D:=⟨a,b,c,d⟩
theorem an5(a:A)(b:B)(c:C)(d:D)(e:E):A∧B∧C∧D∧E:=⟨a,b,c,d,e⟩
theorem an6(a:A)(b:B)(c:C)(d:D)(e:E)(f:F):A∧B∧C∧D∧E∧F:=⟨a,b,c,d,e,f⟩
theorem an7(a:A)(b:B)(c:C)(d:D)(e:E)(f:F)(g:G):A∧B∧C∧D∧E∧F∧G:=⟨a,b,c,d,e,f,g⟩
theorem an8(a:A)(b:B)(c:C)(d:D)(e:E)(f:F)(g:G)(h:H):A∧B∧C∧D∧E∧F∧G∧H:=⟨a,b,c,d,e,f,g,h⟩
theorem an9(a:A)(b:B)(c:C)(d:D)(e:E)(f:F)(g:G)(h:H)(i:I):A∧B∧C∧D∧E∧F∧G∧H∧I:=⟨a,b,c,d,e,f,g,h,i⟩
end
def gdOk:List (Nat×Nat)→(Nat→Option Tmp)→Prop
 | [],_=>True
 |p::l,gd=>gd p.1=some p.2∧gdOk l gd
theorem zcH{L:List Oper}:∀{gs:List (Nat×Nat)},(gs.all fun p=>dstL L p.1==some p.2)=true→gdOk gs (dstL L)
 | [],_=>trivial
 |p::l,h=>by
  simp only[List.all_cons,Bool.and_eq_true,beq_iff_eq]at h
  exact⟨h.1,zcH h.2⟩
theorem bi_un(b:Bool):zaO undef b=false:=nr rfl
def Rest(P:Program)(Q:Post)(ds:List Deferred)(L:List Oper)(F:(Nat→Option Tmp)→(Sto→World→Prop)→Prop):Prop:=
 ∀(gd:Nat→Option Tmp) (K:Sto→World→Prop),gd=dstL L→(∀σ' w',Q .normal σ' ds w'→K σ' w')→F gd K
section
variable {P : Program} {r : Option Nat} {n : Nat} {Q : Post} {σ : Sto} {ds : List Deferred} {w : World} {p : Prop} {L : List Oper} {F : (Nat → Option Tmp) → (Sto → World → Prop) → Prop}
theorem wt{c:Operand}{x y:Code}(h:p)(ht:W P r n x Q σ ds w)(hc:p→ev n σ c= .bool true:=by intro h1;first| (simp only[go_sem,h1];done)| (simp only[go_sem,h1];rfl)):W P r n (.cond c x y) Q σ ds w:=zcx (hc h) (fun _=>ht) (fun h=>by cases h)
theorem wf{c:Operand}{x y:Code}(h:p)(ht:W P r n y Q σ ds w)(hc:p→ev n σ c= .bool false:=by intro h1;first| (simp only[go_sem,h1];done)| (simp only[go_sem,h1];rfl)):W P r n (.cond c x y) Q σ ds w:=zcx (hc h) (fun h=>by cases h) (fun _=>ht)
theorem ro{id:Nat}{ops:Array Oper}(h:Rest P Q ds ops.toList (fun gd K=>opsV P gd n ops.toList σ w K))(hd:zar ops=true:=by rfl):W P r n (.region id ops false) Q σ ds w:=zei hd fun gd K hgd hK=>h gd K hgd hK
theorem rd{f:FuncId}{args:Array Value}{w1:World}{R:Value→World→Prop}{C:(Nat→Option Tmp)→(Sto→World→Prop)→Value→World→Prop}(h:p)(hF:Fn P f args w1 R)(hr:∀v w',R v w'→Rest P Q ds L (fun gd K=>C gd K v w'))
  (hs:p→∀(gd:Nat→Option Tmp) (K:Sto→World→Prop),F gd K=Fn P f args w1 (fun v w'=>C gd K v w'):=by intro h1 gd K;(simp (disch:=first|omega|assumption|rfl) only[go_sem,h1])<;>exact rfl):Rest P Q ds L F:=
 fun gd K hgd hK=>(hs h gd K).mpr (Fn.mono hF fun v w' hR=>hr v w' hR gd K hgd hK)
theorem rc{id:Nat}{ops:Array Oper}{f:FuncId}{args:Array Value}{w1:World}{R:Value→World→Prop}{C:(Nat→Option Tmp)→(Sto→World→Prop)→Value→World→Prop}(h:p)(hF:Fn P f args w1 R)(hr:∀v w',R v w'→Rest P Q ds ops.toList (fun gd K=>C gd K v w'))
  (hs:p→∀(gd:Nat→Option Tmp) (K:Sto→World→Prop),opsV P gd n ops.toList σ w K=Fn P f args w1 (fun v w'=>C gd K v w'):=by intro h1 gd K;(simp (disch:=first|omega|assumption|rfl) only[go_sem,h1])<;>exact rfl)
  (hd:zar ops=true:=by rfl):W P r n (.region id ops false) Q σ ds w:=ro (rd h hF hr hs) hd
theorem re{σ1:Sto}{w1:World}(h:p)(hq:Q .normal σ1 ds w1)
  (hs:p→∀(gd:Nat→Option Tmp) (K:Sto→World→Prop),F gd K=K σ1 w1:=by intro h1 gd K;(first| (simp (disch:=first|omega|assumption|rfl) only[go_sem,h1])|skip)<;>exact rfl):Rest P Q ds L F:=
 fun gd K _ hK=>(hs h gd K).mpr (hK _ _ hq)
theorem rdg(gs:List (Nat×Nat)){f:FuncId}{args:Array Value}{w1:World}{R:Value→World→Prop}{C:(Nat→Option Tmp)→(Sto→World→Prop)→Value→World→Prop}(h:p)(hF:Fn P f args w1 R)(hr:∀v w',R v w'→Rest P Q ds L (fun gd K=>C gd K v w'))
  (hs:p→∀(gd:Nat→Option Tmp) (K:Sto→World→Prop),gdOk gs gd→F gd K=Fn P f args w1 (fun v w'=>C gd K v w'):=by intro h1 gd K hg;simp only[gdOk]at hg;(simp (disch:=first|omega|assumption|rfl) only[go_sem,zao,zaX,bi_un,hg,h1])<;>exact rfl)
  (hg:(gs.all fun p=>dstL L p.1==some p.2)=true:=by exact rfl):Rest P Q ds L F:=
 fun gd K hgd hK=>(hs h gd K (hgd▸zcH hg)).mpr (Fn.mono hF fun v w' hR=>hr v w' hR gd K hgd hK)
theorem rcg(gs:List (Nat×Nat)){id:Nat}{ops:Array Oper}{f:FuncId}{args:Array Value}{w1:World}{R:Value→World→Prop}{C:(Nat→Option Tmp)→(Sto→World→Prop)→Value→World→Prop}(h:p)(hF:Fn P f args w1 R)(hr:∀v w',R v w'→Rest P Q ds ops.toList (fun gd K=>C gd K v w'))
  (hs:p→∀(gd:Nat→Option Tmp) (K:Sto→World→Prop),gdOk gs gd→opsV P gd n ops.toList σ w K=Fn P f args w1 (fun v w'=>C gd K v w'):=by intro h1 gd K hg;simp only[gdOk]at hg;(simp (disch:=first|omega|assumption|rfl) only[go_sem,zao,zaX,bi_un,hg,h1])<;>exact rfl)
  (hg:(gs.all fun p=>dstL ops.toList p.1==some p.2)=true:=by exact rfl) (hd:zar ops=true:=by rfl):W P r n (.region id ops false) Q σ ds w:=ro (rdg gs h hF hr hs hg) hd
theorem reg(gs:List (Nat×Nat)){σ1:Sto}{w1:World}(h:p)(hq:Q .normal σ1 ds w1)
  (hs:p→∀(gd:Nat→Option Tmp) (K:Sto→World→Prop),gdOk gs gd→F gd K=K σ1 w1:=by intro h1 gd K hg;simp only[gdOk]at hg;(first| (simp (disch:=first|omega|assumption|rfl) only[go_sem,zao,zaX,bi_un,hg,h1])|skip)<;>exact rfl)
  (hg:(gs.all fun p=>dstL L p.1==some p.2)=true:=by exact rfl):Rest P Q ds L F:=
 fun gd K hgd hK=>(hs h gd K (hgd▸zcH hg)).mpr (hK _ _ hq)
theorem rgg(gs:List (Nat×Nat)){id:Nat}{ops:Array Oper}{σ1:Sto}{w1:World}(h:p)(hq:Q .normal σ1 ds w1)
  (hs:p→∀(gd:Nat→Option Tmp) (K:Sto→World→Prop),gdOk gs gd→opsV P gd n ops.toList σ w K=K σ1 w1:=by intro h1 gd K hg;simp only[gdOk]at hg;(simp (disch:=first|omega|assumption|rfl) only[go_sem,zao,zaX,bi_un,hg,h1])<;>exact rfl)
  (hg:(gs.all fun p=>dstL ops.toList p.1==some p.2)=true:=by exact rfl) (hd:zar ops=true:=by rfl):W P r n (.region id ops false) Q σ ds w:=ro (reg gs h hq hs hg) hd
end
def zav(w:World)(p:Option Addr)(k:Nat):Option (List Value):=p.bind fun a=>zaJ w a 0 k
theorem zdW{P:Program}{w:World}{t:TypeId}{p:Option Addr}(hA:tyA P t=true):ldA P w t p=(zav w p (tyS P t)).map fun l=> .agg l.toArray:=by
 cases p with
 |none=>rfl
 |some a=>simp[ldA,ldP,ldV,hA,zav]
theorem zbr{w:World}{b o:Nat}{cur:Array Value}{e:TypeId}{fr:Nat×Nat}(h:w.heap[b]? =some (.cells cur e fr)):∀(k i:Nat),o+i+k≤cur.size→
  zaJ w ⟨b,o,Option.none⟩ i k=some ((cur.toList.drop (o+i)).take k)
 |0,_,_=>by simp[zaJ]
 |k+1,i,hk=>by
  unfold zaJ
  rw[zbz,zbk h,zbr h k (i+1) (by omega)]
  have hlt:o+i<cur.size:=by omega
  have hd:=List.drop_eq_getElem_cons (l:=cur.toList) (i:=o+i) (by simpa using hlt)
  rw[Array.getElem?_eq_getElem hlt,hd,List.take_succ_cons]
  rfl
theorem zcu{w:World}{b o k:Nat}{cur:Array Value}{e:TypeId}{fr:Nat×Nat}(h:w.heap[b]? =some (.cells cur e fr))(hk:o+k≤cur.size):
  zav w (some ⟨b,o,Option.none⟩) k=some ((cur.toList.drop o).take k):=by
 have:=zbr (o:=o) h k 0 (by omega)
 simpa [zav] using this
theorem zcN{S:Nat→Prop}{w x:World}(hk:Keep S w x){p:Option Addr}(hS:offS S p){k:Nat}{l:List Value}(h:zav w p k=some l):zav x p k=some l:=by
 cases p with
 |none=>cases h
 |some a=>exact za7 hk (hS a rfl) k 0 l h
theorem zbj{w x:World}(hk:Ext w x){p:Option Addr}{k:Nat}{l:List Value}(h:zav w p k=some l):zav x p k=some l:=
 zcN hk (by simp[offS,NoS]) h
def RowK(k:Nat)(w:World)(v:Value)(L:List (List Value)):Prop:=
 ∃a c,v= .slice a L.length c∧L.length≤c∧∀j (h:j<L.length),zav w (adr a (j*k)) k=some L[j]
/-! ### a block of elements -/
theorem zch{b o:Nat}{e:TypeId}:∀(l:List Value) (i:Nat) (w:World) (A V B:List Value) (cur:Array Value),w.heap[b]? =some (.cells cur e (0,0))→cur.toList=A++V++B→A.length=o+i→V.length=l.length→(∀v∈l,one v=true)→
  ∃w',stC w ⟨b,o,Option.none⟩ i l=some w'∧w'.heap.size=w.heap.size∧Keep (fun x=>x=b) w w'∧∃cur':Array Value,w'.heap[b]? =some (.cells cur' e (0,0))∧cur'.toList=A++l++B
 | [],i,w,A,V,B,cur,hb,hc,hA,hV,_=>by
  have:V=[]:=List.length_eq_zero_iff.1 hV
  subst this
  exact⟨w,rfl,rfl,Keep.refl _ _,cur,hb,by simpa using hc⟩
 |v::l,i,w,A,V,B,cur,hb,hc,hA,hV,h1=>by
  cases V with
  |nil=>simp at hV
  |cons u V=>
   have hcl:=congrArg List.length hc
   simp only[List.length_append,List.length_cons,Array.length_toList]at hcl
   have hlt:o+i<cur.size:=by omega
   have hset:(cur.setIfInBounds (o+i) v).toList=(A++ [v])++V++B:=by
    rw[Array.toList_setIfInBounds,hc,←hA,List.append_assoc,List.set_append_right _ _ (Nat.le_refl _),Nat.sub_self]
    simp
   obtain⟨w',k1,k2,k3,cur',k4,k5⟩:=zch l (i+1) (w.setCell ⟨b,o+i,Option.none⟩ v) (A++ [v]) V B _ (zci hb) hset (by rw[List.length_append,hA];rfl) (by simpa using hV) (fun x hx=>h1 x (List.mem_cons_of_mem _ hx))
   refine⟨w',?_,by rw[k2];simp,(zcV w b (o+i) v).trans k3,cur',k4,by simpa using k5⟩
   unfold stC
   rw[zbz,zbk hb,zcp hb,Array.getElem?_eq_getElem hlt,h1 v (List.mem_cons_self ..)]
   simpa using k1
def ldAX(P:Program)(w:World)(t:TypeId)(p:Option Addr):Bool→Nat→Option Value
 |true,k=>(zav w p k).map fun l=> .agg l.toArray
 |false,_=>ldP P w t p
theorem ldA_X{P:Program}{w:World}{t:TypeId}(p:Option Addr):ldA P w t p=ldAX P w t p (tyA P t) (tyS P t):=by
 cases hA:tyA P t with
 |true=>exact zdW hA
 |false=>rfl
theorem zdX{P:Program}{w:World}{t:TypeId}(p:Option Addr)(k:Nat):ldAX P w t p true k=(zav w p k).map fun l=> .agg l.toArray:=nr rfl
attribute [go_sem] ldA_X zdX
theorem zad{w:World}{b i:Nat}{cur:Array Value}{e:TypeId}{fr:Nat×Nat}{v:Value}(h:w.heap[b]? =some (.cells cur e fr))(hv:cur[i]? =some v):zag w (some ⟨b,i,Option.none⟩)=some v:=by
 show w.cell? _=_
 rw[zbk h];exact hv
def zbF(k:Nat):List Value→List (Nat×Value)
 | []=>[]
 |v::l=>(k,v)::zbF (k+1) l
theorem zcr:∀(l:List Value) (k:Nat) (cells:Array Value),(∀v∈l,v.cells=#[v])→k+l.length≤cells.size→
  ∃r,Instr.fill (fun i=>some (i*1,1)) cells (zbF k l)=some r∧r.toList=cells.toList.take k++l++cells.toList.drop (k+l.length)
 | [],k,cells,_,_=>⟨cells,rfl,by simp⟩
 |v::l,k,cells,h,hk=>by
  simp only[List.length_cons]at hk
  have hv:=h v (List.mem_cons_self ..)
  obtain⟨r,h1,h2⟩:=zcr l (k+1) (cells.setIfInBounds k v) (fun u hu=>h u (List.mem_cons_of_mem _ hu)) (by simp;omega)
  refine⟨r,?_,?_⟩
  ·unfold zbF Instr.fill
   simp only[hv,Nat.mul_one]
   have:¬((#[v]:Array Value).size≠1∨k+(#[v]:Array Value).size>cells.size):=by simp;omega
   rw[if_neg (by simpa using this)]
   simpa using h1
  ·rw[h2,Array.toList_setIfInBounds,List.take_set,List.drop_set_of_lt (by omega)]
   have hlt:k<cells.toList.length:=by simp;omega
   rw[zaA hlt]
   have e1:(cells.toList.take k).length=k:=by rw[List.length_take];omega
   rw[List.set_append_right _ _ (by omega),e1,Nat.sub_self,List.set_cons_zero]
   simp[Nat.add_assoc,Nat.add_comm 1]
section
variable {P : Program} {w : World} {K : Value → World → Prop}
theorem bs_list{t e:TypeId}{z:Value}{l:List Value}{n:Nat}{parts:List (Nat×Value)}(hn:n=l.length)(hp:parts=zbF 0 l)(hu:tyU P t=some (.slice e))(hz:tyZ P e=some z)(hs:tyS P e=1)(hz1:z.cells=#[z])(hv:∀v∈l,v.cells=#[v])(hl:l.length≤1000000)
  (h:∀w1,Ext w w1→w1.heap.size=w.heap.size+1→Own w.heap.size w1 e (.slice (some ⟨w.heap.size,0,Option.none⟩) n n) l→K (.slice (some ⟨w.heap.size,0,Option.none⟩) n n) w1):bsL P t n parts w K .mk:=by
 subst hn hp
 unfold bsL bsK
 have hsz:((Array.range (l.length*1)).map fun x=>z.cells[x % z.cells.size]!).size=l.length:=by simp
 obtain⟨r,h1,h2⟩:=zcr l 0 ((Array.range (l.length*1)).map fun x=>z.cells[x % z.cells.size]!) hv (by rw[hsz];omega)
 have hr:r.toList=l:=by
  rw[h2,List.take_zero,List.nil_append,Nat.zero_add,List.drop_of_length_le (by rw[Array.length_toList,hsz];exact Nat.le_refl _),List.append_nil]
 have:bsC P t l.length (zbF 0 l)=some (e,r):=by
  unfold bsC
  rw[hu]
  simp only[hz,hs]
  have c1:(decide (l.length*1≤2 ^ 24) && decide (z.cells.size=1))=true:=by rw[hz1];simp;omega
  rw[c1,cond_true,h1];rfl
 rw[this]
 have hrs:r.size=l.length:=by rw[←hr];simp
 exact h _ (Ext.alloc w _) (zbw w _) ⟨by simp,.inr ⟨w.heap.size,l.length,r,rfl,Nat.le_refl _,zaT w _,Nat.le_refl _,by simp[maxLen];omega,by simpa using hrs,by rw[hr];simp⟩⟩
end
section
variable {P : Program} {d : Option Tmp} {ty : TypeId} {ps : String} {af : Array Edge} {g : Option (Nat × Bool)} {ρ : Operand → Value} {w : World} {K : Value → World → Prop}
end
section
variable {α : Type}
def Rows(k:Nat)(C:List Value→α→Prop)(w:World)(v:Value)(xs:List α):Prop:=∃L,RowK k w v L∧L.length=xs.length∧∀i (h:i<L.length) (h':i<xs.length),C L[i] xs[i]
variable {k B : Nat} {C C' : List Value → α → Prop} {w x : World} {v : Value} {xs : List α} {e : TypeId}
theorem Rows.open(h:Rows k C w v xs):∃a c,v= .slice a xs.length c∧xs.length≤c∧∀i (h:i<xs.length),∃cs,zav w (adr a (i*k)) k=some cs∧C cs xs[i]:=by
 obtain⟨L,⟨a,c,rfl,hc,hg⟩,h2,h3⟩:=h
 refine⟨a,c,by rw[h2],by omega,fun i hi=>⟨L[i]'(by omega),hg i (by omega),h3 i (by omega) hi⟩⟩
theorem zc0{D:Nat→List Value→Prop}:∀(m:Nat),(∀i,i<m→∃cs,D i cs)→∃L:List (List Value),L.length=m∧∀i (h:i<L.length),D i L[i]
 |0,_=>⟨[],rfl,fun i h=>absurd h (by simp)⟩
 |m+1,h=>by
  obtain⟨L,hl,hL⟩:=zc0 m (fun i hi=>h i (by omega))
  obtain⟨cs,h1⟩:=h m (by omega)
  refine⟨L++ [cs],by simp[hl],fun i hi=>?_⟩
  by_cases he:i<L.length
  ·rw[List.getElem_append_left he];exact hL i he
  ·have hi0:i=L.length:=by simp at hi;omega
   have e1:(L++ [cs])[i]=cs:=by simp[hi0]
   rw[e1,hi0,hl];exact h1
theorem Rows.close{a:Option Addr}{c:Nat}(hc:xs.length≤c)(h:∀i (h:i<xs.length),∃cs,zav w (adr a (i*k)) k=some cs∧C cs xs[i]):Rows k C w (.slice a xs.length c) xs:=by
 obtain⟨L,hl,hL⟩:=zc0 (D:=fun i cs=>∀h:i<xs.length,zav w (adr a (i*k)) k=some cs∧C cs xs[i]) xs.length (fun i hi=>by
  obtain⟨cs,h1⟩:=h i hi
  exact⟨cs,fun _=>h1⟩)
 exact⟨L,⟨a,c,by rw[hl],by omega,fun i hi=>(hL i hi (by omega)).1⟩,hl,fun i h h'=>(hL i h h').2⟩
theorem Rows.drop{a:Option Addr}{c n:Nat}(h:Rows k C w (.slice a n c) xs){m:Nat}(hm:m≤n):Rows k C w (.slice (if c=m then a else adr a (m*k)) (n - m) (c - m)) (xs.drop m):=by
 obtain⟨a',c',hv',hc,hg⟩:=h.open
 have e1:a=a':=by injection hv'
 have e2:n=xs.length:=by injection hv'
 have e3:c=c':=by injection hv'
 subst e1 e2 e3
 rw[show xs.length - m=(xs.drop m).length from(List.length_drop ..).symm]
 refine Rows.close (by rw[List.length_drop];omega) (fun i hi=>?_)
 rw[List.length_drop]at hi
 obtain⟨cs,h1,h2⟩:=hg (m+i) (by omega)
 refine⟨cs,?_,by rw[List.getElem_drop];exact h2⟩
 rw[if_neg (by omega),zeg,←Nat.add_mul];exact h1
theorem Rows.take{a:Option Addr}{c n:Nat}(h:Rows k C w (.slice a n c) xs){m c2:Nat}(hm:m≤n)(hc2:m≤c2):Rows k C w (.slice a m c2) (xs.take m):=by
 obtain⟨a',c',hv',hc,hg⟩:=h.open
 have e1:a=a':=by injection hv'
 have e2:n=xs.length:=by injection hv'
 subst e1 e2
 have hl:(xs.take m).length=m:=by rw[List.length_take];omega
 have:=Rows.close (k:=k) (C:=C) (w:=w) (a:=a) (c:=c2) (xs:=xs.take m) (by omega) (fun i hi=>by
  rw[hl]at hi
  obtain⟨cs,h1,h2⟩:=hg i (by omega)
  exact⟨cs,h1,by rw[List.getElem_take];exact h2⟩)
 rwa [hl]at this
end
section
variable {P : Program} {d : Option Tmp} {ty : TypeId} {ps : String} {af : Array Edge} {g : Option (Nat × Bool)} {ρ : Operand → Value} {w : World} {K : Value → World → Prop} {α : Type} {k : Nat} {C : List Value → α → Prop}
theorem Ext.at{w x:World}(h:Ext w x){b:Nat}{O:Obj}(hb:w.heap[b]? =some O):x.heap[b]? =some O:=(h.block _ (Array.getElem?_eq_some_iff.1 hb).1 (fun h=>h)).trans hb
theorem zaN{f:Option Nat}{n:Nat}{c:Code}{Q:Post}{σ:Sto}{ds:List Deferred}{O:Obj}(h:∀w1,Ext w w1→w1.heap.size=w.heap.size+1→w1.heap[w.heap.size]? =some O→W P f n c Q σ ds w1):W P f n c Q σ ds (w.alloc O):=
 h _ (Ext.alloc w O) (zbw w O) (zaT w O)
end
end Go.Proofs.YtanmnkbccfcagaaGreatDoor
namespace Go.Proofs.YtanmnkbccfcagaaGreatDoor
open Go Go.ChangeShapes Go.WideShapes Go.ChangeAt Go.RowKit Go.WideElems
theorem Ext.below{w x:World}(h:Ext w x):RowKit.Below w.heap.size w x:=⟨h.os,h.tape,h.output,h.size,fun k hk=>h.block k hk (fun h=>h)⟩
theorem Ext.kept{w x:World}(h:Ext w x)(may:MemPlace→Prop):w.keptBut x may:=by
 refine⟨h.os,h.output,fun i hi=>?_⟩
 rw[h.block i hi (fun h=>h)]
 cases hw:w.heap[i]? with
 |none=>trivial
 |some o=>cases o<;>simp
theorem za8{H:Type}{enc:TypeId×Value→H}{P:Program}(hl:laidOutB P=true){W W':World}{sp:Nat→Bool}(hE:Ext W W'):
  ∀{ts:List TypeId} {vs:List Value} {ds:List (DataW H)} {ps:List MemPlace},(∀t∈ts,P.readableRec t=true∧t<P.types.size)→DataW.TrodAll enc P W 0 (fun _=>true) true ts vs ds ps→(∀x∈ps,x.block<W.heap.size)→(∀x∈ps,sp x.block=true)→
   DataW.TrodAll enc P W' 0 sp true ts vs ds ps
 | [],_,_,_,_,h,_,_=>by
  obtain⟨rfl,rfl,rfl⟩:=trodAll_nil h
  exact trodAll_mk0
 |_::_,_,_,_,ht,h,hlt,hs=>by
  obtain⟨v,vs1,d,ds1,a,b,rfl,rfl,rfl,h1,h2⟩:=trodAll_cons h
  obtain⟨hr,hrow⟩:=ht _ (List.mem_cons_self ..)
  exact trodAll_cons_mk (WideElems.Trod_stays hl hr hrow h1 (fun x hx=>hE.below.same (hlt x (List.mem_append_left _ hx))) (fun x hx=>hs x (List.mem_append_left _ hx)))
   (za8 hl hE (fun t h=>ht t (List.mem_cons_of_mem _ h)) h2 (fun x hx=>hlt x (List.mem_append_right _ hx)) (fun x hx=>hs x (List.mem_append_right _ hx)))
theorem zde{w x:World}(h:Ext w x){b:Nat}(hb:b<w.heap.size)(o:Nat):x.frozen? ⟨b,o,Option.none⟩=w.frozen? ⟨b,o,Option.none⟩:=by
 unfold World.frozen?
 rw[h.block b hb (fun h=>h)]
theorem law_post{H:Type}{enc:TypeId×Value→H}{P:Program}{f:Func}{s:ChangeSpec}{apart fresh handsOn again:Bool}{W W':World}{args:Array Value}{ds gs:List (DataW H)}{before:List MemPlace}
  (hW:DataW.Whole enc P f.params.toList s.vars apart W args.toList ds gs before) (hvn:s.vars=[]) (hspec:s.fn H ds={results:=[.lit (.bool true)],args:=ds}) {tb:TypeId} (hrt:f.resultTypes=#[tb]) (htb:P.underlying tb=some .bool)
  (hl:laidOutB P=true) (hrd:∀t∈f.params.toList,P.readableRec t=true∧t<P.types.size) (hE:Ext W W'):s.post enc P f apart fresh handsOn again W args (.bool true) W':=by
 have hlt:=hW.lt
 have hW0:=hW
 obtain⟨p,q,hA,hV,hpq,hfz,hnd⟩:=hW
 have hq:gs=[]∧q=[]:=by
  rw[hvn]at hV
  cases gs with
  |nil=>exact⟨rfl,hV⟩
  |cons _ _=>exact hV.elim
 obtain⟨rfl,rfl⟩:=hq
 rw[List.append_nil]at hpq
 subst hpq
 have hres:∀(b:Nat) (sp:Nat→Bool) (hd:Bool),DataW.TrodAll enc P W' b sp hd f.resultTypes.toList ((Value.bool true).resultList f.resultTypes.size) (s.fn H (ds++ [])).results []:=fun b sp hd=>by
  rw[List.append_nil,hspec,hrt]
  exact trodAll_mk1 (shut_bool htb true)
 have hargs:∀sp:Nat→Bool,(∀x∈before,sp x.block=true)→DataW.TrodAll enc P W' 0 sp true f.params.toList args.toList (s.fn H (ds++ [])).args before:=fun sp hs=>by
  rw[List.append_nil,hspec]
  exact za8 hl hE hrd hA hlt hs
 have hvars:∀sp:Nat→Bool,DataW.TrodVars enc P W' sp s.vars (s.fn H (ds++ [])).vars []:=fun sp=>by
  rw[List.append_nil,hspec,hvn];rfl
 have hold:∀x∈before,(fun b=>decide (b<W.heap.size)) x.block=true:=fun x hx=>by simpa using hlt x hx
 refine⟨ds,[],before,[],before,[],hW0,hres _ _ _,hargs _ hold,hvars _,hE.kept _,fun _=>?_⟩
 refine⟨fun j t r h1 h2=>?_,_,_,([]++before)++ [],⟨[]++before,[],trodAll_append (hargs _ (fun _ _=>rfl)) (hres _ _ _),hvars _,rfl,?_,?_⟩,?_⟩
 ·rw[hrt]at h1 h2
  match j with
  |0=>
   simp at h1
   subst h1
   have:r= .bool true:=by simpa [Value.resultList] using h2.symm
   subst this
   exact okWide_bool_mk htb true
  |j+1=>simp at h1
 ·intro b off hp
  have hp':MemPlace.cell b off∈before:=by simpa using hp
  rw[zde hE (show b<W.heap.size from hlt _ hp')]
  exact hfz b off hp'
 ·intro ha
  simpa using hnd ha
 ·intro x hx _
  simpa using hx
/-! arguments -/
section
variable {H : Type} {enc : TypeId × Value → H} {P : Program} {w : World} {base : Nat} {sp : Nat → Bool} {held : Bool}
end
end Go.Proofs.YtanmnkbccfcagaaGreatDoor
namespace Go.Proofs.YtanmnkbccfcagaaGreatDoor
open Go
section
variable {H : Type} {enc : TypeId × Value → H} {P : Program} {w : World} {base : Nat} {sp : Nat → Bool} {held : Bool}
end
class Tr (p:World→Prop):Prop where
 tr:∀{w x:World},Ext w x→p w→p x
theorem tr{p:World→Prop}[h:Tr p]{w x:World}(hE:Ext w x)(hp:p w):p x:=h.tr hE hp
instance Tr.and{p q:World→Prop}[Tr p][Tr q]:Tr fun w=>p w∧q w:=⟨fun hE h=>⟨tr hE h.1,tr hE h.2⟩⟩
instance Tr.cell{a:Option Addr}{v:Value}:Tr fun w=>zag w a=some v:=⟨fun hE h=>zaK hE h⟩
instance Tr.cells{a:Option Addr}{k:Nat}{l:List Value}:Tr fun w=>zav w a k=some l:=⟨fun hE h=>zbj hE h⟩
instance Tr.ext{w0:World}:Tr fun w=>Ext w0 w:=⟨fun hE h=>h.trans hE⟩
instance Tr.row{v:Value}{l:List Value}:Tr fun w=>Row w v l:=⟨fun hE h=>h.ext hE⟩
instance Tr.obj{b:Nat}{o:Obj}:Tr fun w=>w.heap[b]? =some o:=⟨fun hE h=>Ext.at hE h⟩
instance Tr.const{p:Prop}:Tr fun _=>p:=⟨fun _ h=>h⟩
instance Tr.all{α:Sort _}{p:α→World→Prop}[∀a,Tr (p a)]:Tr fun w=>∀a,p a w:=⟨fun hE h a=>tr hE (h a)⟩
instance Tr.ex{α:Sort _}{p:α→World→Prop}[∀a,Tr (p a)]:Tr fun w=>∃a,p a w:=⟨fun hE h=>h.elim fun a h=>⟨a,tr hE h⟩⟩
attribute [go_sem] decide_true decide_false
/-! many steps at once -/
structure Gto(p q:Prop):Prop where
 of:q→p
section
variable {P : Program} {r : Option Nat} {n : Nat} {Q : Post} {σ : Sto} {ds : List Deferred} {w : World} {p q s : Prop} {L : List Oper} {F : (Nat → Option Tmp) → (Sto → World → Prop) → Prop}
theorem zd1:Gto p p:=⟨id⟩
theorem gto_c(h:Ctl p q)(k:Gto q s):Gto p s:=⟨fun g=>c_r (k.of g) h⟩
theorem gto_r{id:Nat}{ops:Array Oper}{σ1:Sto}{w1:World}(hs:∀(gd:Nat→Option Tmp) (K:Sto→World→Prop),gd=dstL ops.toList→opsV P gd n ops.toList σ w K=K σ1 w1)(hd:zar ops=true)(k:Gto (Q .normal σ1 ds w1) q):
  Gto (W P r n (.region id ops false) Q σ ds w) q:=⟨fun g=>zei hd fun gd K hgd hK=>(hs gd K hgd).mpr (hK _ _ (k.of g))⟩
theorem gto_t{c:Operand}{x y:Code}(hc:ev n σ c= .bool true)(k:Gto (W P r n x Q σ ds w) q):Gto (W P r n (.cond c x y) Q σ ds w) q:=⟨fun g=>zcx hc (fun _=>k.of g) (fun h=>by cases h)⟩
theorem gto_f{c:Operand}{x y:Code}(hc:ev n σ c= .bool false)(k:Gto (W P r n y Q σ ds w) q):Gto (W P r n (.cond c x y) Q σ ds w) q:=⟨fun g=>zcx hc (fun h=>by cases h) (fun _=>k.of g)⟩
theorem go(h:p)(hq:s)(hs:p→Gto q s:=by
  intro h1
  repeat (first
   | (apply gto_c;· (with_reducible constructor)<;>exact rfl)
   | (apply gto_r;(intro gd K hgd;(simp (disch:=first|omega|assumption|rfl) only[go_sem,h1])<;>with_reducible exact rfl);rfl)
   | (apply gto_t;· first| (simp only[go_sem,h1];done)| (simp only[go_sem,h1];exact rfl))
   | (apply gto_f;· first| (simp only[go_sem,h1];done)| (simp only[go_sem,h1];exact rfl)))
  exact zd1):q:=(hs h).of hq
theorem rgo{σ1:Sto}{w1:World}(h:p)(hq:s)
  (hs:p→∀(gd:Nat→Option Tmp) (K:Sto→World→Prop),F gd K=K σ1 w1:=by intro h1 gd K;(first| (simp (disch:=first|omega|assumption|rfl) only[go_sem,h1])|skip)<;>exact rfl)
  (hg:p→Gto (Q .normal σ1 ds w1) s:=by
   intro h1
   repeat (first
    | (apply gto_c;· (with_reducible constructor)<;>exact rfl)
    | (apply gto_r;(intro gd K hgd;(simp (disch:=first|omega|assumption|rfl) only[go_sem,h1])<;>with_reducible exact rfl);rfl)
    | (apply gto_t;· first| (simp only[go_sem,h1];done)| (simp only[go_sem,h1];exact rfl))
    | (apply gto_f;· first| (simp only[go_sem,h1];done)| (simp only[go_sem,h1];exact rfl)))
   exact zd1):Rest P Q ds L F:=
 re (p:=True) trivial ((hg h).of hq) fun _=>hs h
theorem W_for{c:Code}(N:Nat)(I:Nat→Sto→World→Prop)(h0:I 0 σ w)
  (hs:∀i σ w,i<N→(decide ((i:Int)<(N:Int))=true∧(0:Int)≤(i:Int)∧(i:Int)<(N:Int)∧(i:Int)+1=((i+1:Nat):Int))→I i σ w→W P r n c (zbe (fun σ ds w=>ds=[]∧I (i+1) σ w) Q) σ [] w)
  (he:∀σ w,decide ((N:Int)<(N:Int))=false→I N σ w→W P r n c (zbe (fun _ _ _=>False) Q) σ [] w):W P r n (.loop c) Q σ [] w:=by
 refine zcw (fun m σ ds w=>ds=[]∧∃i,i+m=N∧I i σ w) N ⟨rfl,0,by omega,h0⟩ ?_
 rintro m σ ds w ⟨rfl,i,him,hI⟩
 by_cases h:i<N
 ·refine zc4 (hs i σ w h ⟨decide_eq_true (by omega),by omega,by omega,by push_cast;rfl⟩ hI) ?_
  intro e σ' ds' w' hq
  cases e<;>first|exact hq|exact⟨m - 1,by omega,hq.1,i+1,by omega,hq.2⟩
 ·have e1:i=N:=by omega
  subst e1
  refine zc4 (he σ w (decide_eq_false (by omega)) hI) ?_
  intro e σ' ds' w' hq
  cases e<;>first|exact hq|exact hq.elim
end
set_option maxRecDepth 10000
structure WX(w:World):Prop where
 ml:∃m,w.cell? ⟨0,0,Option.none⟩=some (.int .i64 m)
 p10:∃t fr,w.heap[1]? =some (.cells (Lib.pow10Tab.map fun z=>Value.int .u64 z).toArray t fr)
 er:∃t p,w.cell? ⟨3,0,Option.none⟩=some (.iface t p)
 tz:∃x,w.cell? ⟨6,15,Option.none⟩=some (.int .u8 x)∧0≤x∧x<256
theorem WX.ext{w x:World}(h:WX w)(hE:Ext w x):WX x:=by
 obtain⟨m,h1⟩:=h.ml
 obtain⟨t,fr,h2⟩:=h.p10
 obtain⟨u,p,h3⟩:=h.er
 obtain⟨x,h4,h5⟩:=h.tz
 exact⟨⟨m,zbd hE h1⟩,⟨t,fr,hE.at h2⟩,⟨u,p,zbd hE h3⟩,⟨x,zbd hE h4,h5⟩⟩
instance WX.tr:Tr WX:=⟨fun hE h=>h.ext hE⟩
theorem WX.tab{w:World}(h:WX w){name:String}(hn:Tryz.prog.globalNamed name=some 1):Lib.TabIs Tryz.prog w name .u64 Lib.pow10Tab:=by
 obtain⟨t,fr,h⟩:=h.p10
 unfold Lib.TabIs World.var?
 rw[hn,Option.bind_some,h]
theorem za6(w:World):∀n,(w.drewN n).drawn=w.drawn+n
 |0=>rfl
 |n+1=>by
  have:=za6 w n
  simp only[World.drewN]at this ⊢
theorem Ext.drewN(w:World)(n:Nat):Ext w (w.drewN n):=⟨rfl,rfl,rfl,Nat.le_refl _,fun _ _ _=>rfl,by rw[za6];omega⟩
theorem Ext.of_below{w w':World}(h:RowKit.Below w.heap.size w w')(hd:w.drawn≤w'.drawn):Ext w w':=⟨h.os,h.tape,h.output,h.size,fun b hb _=>h.block b hb,hd⟩
theorem Ext.grow(w:World)(n:Nat)(os:Array Obj):Ext w (Go.Sort.grow (w.drewN n) os):=
 ⟨rfl,rfl,rfl,by show w.heap.size≤(w.heap++os).size;rw[Array.size_append];omega,fun b hb _=>by
  show(w.heap++os)[b]? =_
  rw[Array.getElem?_append_left hb],by show w.drawn≤(w.drewN n).drawn;rw[za6];omega⟩
theorem zcq(w:World)(a:Addr)(n:Nat):(w.freeze a n).drawn=w.drawn:=by unfold World.freeze;split<;>rfl
theorem Ext.bytes(w:World)(e:TypeId)(s:ByteArray):Ext w (Lib.bytesWorld w e s):=
 Ext.of_below (Lib.bytesWorld_below _ _ _) (by
  unfold Lib.bytesWorld
  rw[zcq]
  exact Nat.le_succ _)
/-! contracts -/
theorem zem{w:World}(hW:WX w)(s:Lab)(c:UInt8)(hs:s.length<4000000000):
  Fn Tryz.prog 73 #[vs s,vs [c]] w (fun v w'=>v= .tuple #[vs (cutB c s).1,vs (cutB c s).2.1,.bool (cutB c s).2.2]∧Ext w w'):=by
 obtain⟨m,hm⟩:=hW.ml
 refine Fn.of_calls (Calls.mono (Any.strings_Cut Tryz.lays145 ⟨s.toArray⟩ ⟨#[c]⟩ m w (show s.toArray.size<_ by simp;omega) hm) ?_)
 rintro _ w' ⟨he,n,rfl⟩
 refine⟨_,he,?_,Ext.drewN w n⟩
 rw[show Lib.cut (⟨s.toArray⟩:ByteArray).data.toList (⟨#[c]⟩:ByteArray).data.toList=cutB c s from zeb c s]
theorem zbt(w:World)(s p:Lab):Fn Tryz.prog 79 #[vs s,vs p] w (fun v w'=>v= .bool (p.isPrefixOf s)∧w'=w):=
 Fn.of_calls (Calls.mono (Any.strings_HasPrefix Tryz.lays99 ⟨s.toArray⟩ ⟨p.toArray⟩ w) fun _ _ ⟨he,hw⟩=>⟨_,he,rfl,hw⟩)
theorem zcA(w:World)(s p:Lab):Fn Tryz.prog 209 #[vs s,vs p] w (fun v w'=>v= .tuple #[vs (Lib.trimPrefix s p),.bool (p.isPrefixOf s)]∧w'=w):=
 Fn.of_calls (Calls.mono (Any.strings_CutPrefix Tryz.lays103 ⟨s.toArray⟩ ⟨p.toArray⟩ w) fun _ _ ⟨he,hw⟩=>⟨_,he,rfl,hw⟩)
theorem zcQ{w:World}(hW:WX w)(n:Int)(h0: -9223372036854775808≤n)(h1:n≤9223372036854775807):Fn Tryz.prog 82 #[vi n] w (fun v w'=>v=vs (Lib.itoa n)∧Ext w w'):=
 Fn.of_calls (Calls.mono (Any.strconv_Itoa Tryz.laysM171 n h0 h1 w (hW.tab (by kernel_rfl))) fun _ _ ⟨he,k,os,hw⟩=>⟨_,he,rfl,hw▸Ext.grow w k os⟩)
theorem zcS{w:World}(hW:WX w)(n:Int)(h0: -9223372036854775808≤n)(h1:n≤9223372036854775807):Fn Tryz.prog 142 #[vi n,vi 10] w (fun v w'=>v=vs (Lib.itoa n)∧Ext w w'):=
 Fn.of_calls (Calls.mono (Any.strconv_FormatInt_10 Tryz.laysM173 n h0 h1 w (hW.tab (by kernel_rfl))) fun _ _ ⟨he,k,os,hw⟩=>⟨_,he,rfl,hw▸Ext.grow w k os⟩)
/-! digits cut off both ends -/
def digs10:Lab:=[48,49,50,51,52,53,54,55,56,57]
theorem digs_has(c:UInt8):digs10.contains c=digB c:=by
 have:∀n,n<256→digs10.contains (UInt8.ofNat n)=digB (UInt8.ofNat n):=by decide+kernel
 have h:=this c.toNat c.toNat_lt
 rwa [UInt8.ofNat_toNat]at h
theorem zbb{α:Type}(p:α→Bool):∀l:List α,(l.dropWhile p=[])↔l.all p=true
 | []=>by simp
 |a::l=>by
  rw[List.dropWhile_cons]
  cases h:p a with
  |true=>simpa [h] using zbb p l
  |false=>simp[h]
theorem zcg(s:Lab):(Lib.trimS s digs10=[])↔s.all digB=true:=by
 have e:(fun b=>digs10.contains b)=digB:=funext digs_has
 unfold Lib.trimS Lib.trimLeftS Lib.trimRightS
 simp only[e]
 rw[zbb,List.all_eq_true,List.all_eq_true]
 constructor
 ·intro h x hx
  by_cases hd:digB x=true
  ·exact hd
  ·refine h x (List.mem_reverse.2 ?_)
   have key:∀l:Lab,x∈l→x∈l.dropWhile digB:=by
    intro l
    induction l with
    |nil=>intro h;cases h
    |cons a l ih=>
     intro hm
     rw[List.dropWhile_cons]
     split
     ·rename_i ha
      rcases List.mem_cons.1 hm with rfl|hm
      ·exact absurd ha hd
      ·exact ih hm
     ·exact hm
   exact key _ (List.mem_reverse.2 hx)
 ·intro h x hx
  have h1:=List.mem_reverse.1 hx
  exact h x (List.mem_reverse.1 ((List.dropWhile_sublist _).subset h1))
theorem Trim_ok(w:World)(s:Lab)(h0:s≠ [])(hs:s.length≤9000000000000000000):Fn Tryz.prog 134 #[vs s,vs digs10] w (fun v w'=>v=vs (Lib.trimS s digs10)∧Ext w w'):=by
 refine Fn.of_calls (Calls.mono (Any.strings_Trim_set Tryz.lays160 (zero_of_info (n:=256) (by kernel_rfl)).1 (by kernel_rfl) ⟨s.toArray⟩ ⟨digs10.toArray⟩ w (by decide) (show 0<s.toArray.size by simpa using List.length_pos_iff.2 h0) (show s.toArray.size≤_ by simp;omega) (by decide) (ascii_of_all (by decide))) ?_)
 rintro _ w' ⟨he,q,rfl⟩
 exact⟨_,he,rfl,((Ext.alloc w _).trans (Ext.alloc _ _)).trans (Ext.drewN _ q)⟩
section
variable {P : Program} {w : World} {K : Value → World → Prop} {α : Type} {k : Nat} {C : List Value → α → Prop}
theorem zec{b n:Nat}{cur:Array Value}{e:TypeId}{fr:Nat×Nat}(h:w.heap[b]? =some (.cells cur e fr))(hn:n=cur.size):zav w (some ⟨b,0,Option.none⟩) n=some cur.toList:=by
 rw[zcu h (by omega),List.drop_zero,List.take_of_length_le (by simp[hn])]
end
section
variable {α : Type} {k B : Nat} {C : List Value → α → Prop} {w x : World} {v : Value} {xs : List α} {e : TypeId}
theorem drewX{w x:World}(h:x=w.drew):Ext w x:=h▸Keep.drew NoS w
/-! ### a variable of several cells -/
variable {P : Program} {K : Value → World → Prop}
theorem zbV{t:TypeId}{b:Nat}{cur:Array Value}{l:List Value}(hb:w.heap[b]? =some (.cells cur e (0,0)))(hl:l.length=cur.size)(h1:∀v∈l,one v=true)(hs:tyS P t=l.length)(hi:(P.info? t).isSome=true)
  (hK:∀w',w'.heap.size=w.heap.size→w'.heap[b]? =some (.cells l.toArray e (0,0))→Keep (fun i=>i=b) w w'→K undef w'):stK P t (.pointer (some ⟨b,0,Option.none⟩)) (.agg l.toArray) w K:=by
 obtain⟨w',k1,k2,k3,cur',k4,k5⟩:=zch (o:=0) l 0 w [] cur.toList [] cur hb (by simp) rfl (by simp[hl]) h1
 refine⟨by simp[Value.cells,hs],hi,w',by simpa [Value.cells] using k1,hK w' k2 ?_ k3⟩
 rw[k4]
 have:cur'=l.toArray:=by
  apply Array.ext'
  simpa using k5
 rw[this]
theorem sv_at{t:TypeId}{b j:Nat}{u:Value}{l:List Value}(hb:w.heap[b]? =some (.cells l.toArray e (0,0)))(hj:j<l.length)(h1:one u=true)(hs:tyS P t=1)(hi:(P.info? t).isSome=true)
  (hK:∀w',w'.heap.size=w.heap.size→w'.heap[b]? =some (.cells (l.set j u).toArray e (0,0))→Keep (fun i=>i=b) w w'→K undef w'):stK P t (.pointer (some ⟨b,j,Option.none⟩)) u w K:=by
 refine zcT hs hi h1 hb (by simpa using hj) (by simp) ?_
 intro w' h1 h2 h3
 refine hK w' h1 ?_ h3
 rw[h2];simp
theorem sv_get{b j:Nat}{u:Value}{l:List Value}(hb:w.heap[b]? =some (.cells l.toArray e (0,0)))(hj:l[j]? =some u):zag w (some ⟨b,j,Option.none⟩)=some u:=by
 show w.cell? _=_
 rw[zbk hb];simpa using hj
theorem zaY{b n:Nat}{l:List Value}(hb:w.heap[b]? =some (.cells l.toArray e (0,0)))(hn:n=l.length):zav w (some ⟨b,0,Option.none⟩) n=some l:=by
 have:=zec (n:=n) hb (by simp[hn])
 simpa using this
end
section
variable {P : Program} {n : Nat} {σ : Sto} {w : World} {l : List ResultVar} {r : List Value}
theorem zah:resV P n σ w []=some []:=rfl
theorem zac{t:Tmp}{v:Value}(hv:ev n σ (.tmp t)=v)(h:resV P n σ w l=some r):resV P n σ w (.tmp t::l)=some (v::r):=by
 unfold resV
 rw[h,←hv];rfl
theorem zdD{a:Tmp}{t:TypeId}{x:Addr}{k:Nat}{cs:List Value}(hv:ev n σ (.tmp a)= .pointer (some x))(hA:tyA P t=true)(hk:tyS P t=k)(hc:zav w (some x) k=some cs)(h:resV P n σ w l=some r):resV P n σ w (.cell a t::l)=some (.agg cs.toArray::r):=by
 subst hk
 unfold resV
 rw[show (if a<n then σ a else undef)= .pointer (some x) from hv]
 have:ldV P w t x=some (.agg cs.toArray):=by
  unfold ldV
  rw[hA,cond_true,show zaJ w x 0 (tyS P t)=some cs from hc];rfl
 simp only[this,h]
theorem zaj{fn:Func}{R:Value→World→Prop}{e:Exit}(he:e= .normal∨e= .ret)(hm:fn.ntmps=n){rs:List ResultVar}(hl:fn.results.toList=rs)(hr:resV P n σ w rs=some r)(h:R (resT r) w):retQ P fn R e σ [] w:=by
 subst hm hl
 exact⟨he,trivial,r,hr,h⟩
theorem ret_anyM{fn:Func}{R:Value→World→Prop}{e:Exit}{D:Nat}(he:e= .normal∨e= .ret)(hm:fn.ntmps=n){rs:List ResultVar}(hl:fn.results.toList=rs)(hD:w.heap[D]? =some (.deferred (some [])))
  (h:∀w',Keep (fun b=>b=D) w w'→w'.heap.size=w.heap.size→∃r,resV P n σ w' rs=some r∧R (resT r) w'):retQ P fn R e σ [{target:= .collected D,args:=#[]}] w:=by
 subst hm hl
 obtain⟨r,h1,h2⟩:=h (w.putObj D (.deferred Option.none)) (zay rfl) (by simp)
 exact⟨he,⟨D,rfl,hD,trivial⟩,r,h1,h2⟩
end
section
variable {P : Program} {d : Option Tmp} {ty : TypeId} {ps : String} {af : Array Edge} {g : Option (Nat × Bool)} {ρ : Operand → Value} {w : World} {K : Value → World → Prop}
theorem zdK{op:BinOp}{t yt:TypeId}{x y:Operand}{u v r:Value}(hx:ρ x=u)(hy:ρ y=v)(hr:(do eqGuard op t x y u v;binOp op t u v:Sem Value).run P w= .ok r w)(h:K r w):
  opW P ⟨d,.binOp op t x y yt,ty,ps,af,g⟩ ρ w K:=by
 have:=zae (P:=P) (K:=K) hr h
 rw[←hx,←hy]at this
 exact this
theorem zco{t te yt:TypeId}{j:TypeInfo}{x y:Operand}{a:Addr}(ht:tyU P t=some (.pointer te))(hj:P.info? te=some j)(hx:ρ x= .pointer (some a))(hy:ρ y= .pointer (some a))(h:K (.bool false) w):
  opW P ⟨d,.binOp .neq t x y yt,ty,ps,af,g⟩ ρ w K:=by
 refine zdK hx hy ?_ h
 simp[eqGuard,Lib.run_neq_ptr_same (P:=P) w a (show P.underlying t=_ from ht) hj]
theorem zdL{s t:TypeId}{x:Operand}{u v:Value}{w':World}(hx:ρ x=u)(hr:(convert s t u).run P w= .ok v w')(h:K v w'):opW P ⟨d,.convert s t x,ty,ps,af,g⟩ ρ w K:=by
 show opR P K ((do pure (.value (←convert s t (ρ x))):Sem Next).run P w)
 rw[hx]
 exact zae hr h
theorem op_appS{B:Nat}{s x:Operand}{t tu e:TypeId}{inf:TypeInfo}{v:Value}{l:List Value}{bs:List UInt8}(hown:Own B w e v l)(ht:tyU P t=some (.slice e))(hu:tyU P tu=some .string)(hi:P.info? e=some inf)(hz:inf.zero=some (.int .u8 0))
  (hsize:inf.size=1) (hby:inf.bytes=1) (hv:ρ s=v) (hx:ρ x=vs bs) (hlen:l.length+bs.length≤100000000000) (hB:B≤w.heap.size)
  (h:∀v' w',Own B w' e v' (l++bs.map zaL)→Keep (fun b=>some b=v.ownBlock) w w'→K v' w'):
  opW P ⟨d,.call ⟨.builtin .append,#[s,x],#[t,tu]⟩,ty,ps,af,g⟩ ρ w K:=by
 have hs:(⟨bs.toArray⟩:ByteArray).size=bs.length:=by simp[ByteArray.size]
 obtain⟨v',w',hr,h2,h3,h4⟩:=Lib.run_append_own_string (P:=P) w B t tu ty e inf (show P.underlying t=_ from ht) (show P.underlying tu=_ from hu) hi hz hsize hby v l.length l hown ⟨bs.toArray⟩ (by rw[hs];simp[maxLen];omega) (by rw[hs];omega) hB
 have hc:Lib.strCells ⟨bs.toArray⟩=bs.map zaL:=by simp[Lib.strCells,zaL]
 rw[hs,hc]at h2
 refine zaR (b:= .append) (r:= .ok v' w') (fun v2 w2 h'=>?_) ⟨v',w',by rw[hv,hx];exact hr⟩
 rw[hv,hx]at h'
 have e1:(Builtin.append_ #[t,tu] ty #[v,.string ⟨bs.toArray⟩]).run P w= .ok v2 w2:=h'
 rw[hr]at e1
 cases e1
 have hl:l.length+bs.length=(l++bs.map zaL).length:=by simp
 rw[hl]at h2
 exact h v' w' h2 (zbX h3 (zaf _ _ _ _ hr))
theorem zaD{x:Operand}{ts:Array TypeId}{u v:Value}{w':World}(hx:ρ x=u)(hr:(Builtin.unsafeSliceData_ ts ty #[u]).run P w= .ok v w')(h:K v w'):
  opW P ⟨d,.call ⟨.builtin .unsafeSliceData,#[x],ts⟩,ty,ps,af,g⟩ ρ w K:=by
 simp only[opW,execOp,Sem.run_bind,resolve]
 simp only[Sem.run_pure,Result.andThen_ok,invoke,builtin]
 exact zae (s:=Builtin.unsafeSliceData_ ts ty (Array.map ρ #[x])) (by simpa [hx] using hr) h
theorem zal{x y:Operand}{ts:Array TypeId}{u z v:Value}{w':World}(hx:ρ x=u)(hy:ρ y=z)(hr:(Builtin.unsafeString_ ts ty #[u,z]).run P w= .ok v w')(h:K v w'):
  opW P ⟨d,.call ⟨.builtin .unsafeString,#[x,y],ts⟩,ty,ps,af,g⟩ ρ w K:=by
 simp only[opW,execOp,Sem.run_bind,resolve]
 simp only[Sem.run_pure,Result.andThen_ok,invoke,builtin]
 exact zae (s:=Builtin.unsafeString_ ts ty (Array.map ρ #[x,y])) (by simpa [hx,hy] using hr) h
end
structure Bld(B:Nat)(w:World)(b:Nat)(bs:List UInt8):Prop where
 ex:∃p v,(p= .pointer Option.none∨p= .pointer (some ⟨b,0,Option.none⟩))∧w.heap[b]? =some (.cells #[p,v] 106 (0,0))∧Own B w 5 v (bs.map zaL)
theorem zb6{B:Nat}{w:World}{e:TypeId}{v:Value}{l:List Value}(h:Own B w e v l){b:Nat}(hb:some b=v.ownBlock):∃cur fr,w.heap[b]? =some (.cells cur e fr):=by
 rcases h.2 with ⟨rfl,_⟩| ⟨g,cap,cur,rfl,_,hg,_⟩
 ·cases hb
 ·cases hb;exact⟨_,_,hg⟩
theorem bld_ne{B:Nat}{w:World}{v p:Value}{l:List Value}{b:Nat}(h:Own B w 5 v l)(hb:w.heap[b]? =some (.cells #[p,v] 106 (0,0))):some b≠v.ownBlock:=fun he=>by
 obtain⟨cur,fr,h1⟩:=zb6 h he
 rw[hb]at h1
 injection h1 with h1
 injection h1 with _ h2
 revert h2;decide
theorem zdN(l:List UInt8):∀q∈l.map zaL,one q=true:=fun q hq=>by
 obtain⟨c,_,rfl⟩:=List.mem_map.1 hq;rfl
theorem zbq{w:World}{b:Nat}{p v:Value}(hp:p= .pointer Option.none∨p= .pointer (some ⟨b,0,Option.none⟩))(hb:w.heap[b]? =some (.cells #[p,v] 106 (0,0))):
  Fn Tryz.prog 120 #[.pointer (some ⟨b,0,Option.none⟩)] w (fun _ w'=>w'.heap[b]? =some (.cells #[.pointer (some ⟨b,0,Option.none⟩),v] 106 (0,0))∧Keep (fun i=>i=b) w w'∧w'.heap.size=w.heap.size):=by
 have c0:zag w (some ⟨b,0,Option.none⟩)=some p:=zad hb rfl
 obtain⟨j,hj,hjs⟩:∃j,Tryz.prog.info? 106=some j∧j.size≠0:=by
  have:(Tryz.prog.info? 106).map (·.size)=some 2:=by kernel_rfl
  obtain⟨j,h1,h2⟩:=Option.map_eq_some_iff.1 this
  exact⟨j,h1,by rw[h2];decide⟩
 rcases hp with rfl|rfl
 ·refine enter Tryz.func120 Tryz.ntmps120 rfl rfl ?_
  repeat refine c_r ?_
  refine rq ?_;intro gd K hgd hK
  try simp (disch:=first|omega|assumption|rfl) only[go_sem,c0,Nat.add_zero]
  refine hK _ _ ?_;clear hK hgd;clear K;try clear gd
  repeat refine c_r ?_
  refine wc0 ?_ ?_
  ·intro _
   have hsh:w.shape? b=some (106,2):=by simp[World.shape?,hb]
   repeat refine c_r ?_
   refine rq ?_;intro gd K hgd hK
   try simp only[go_sem]
   refine zdL (by rfl) (Lib.run_to_unsafe w ⟨b,0,Option.none⟩ (by rfl) (by rfl) hj hjs hsh (Nat.zero_lt_succ 1)) ?_
   try simp only[go_sem]
   refine⟨.pointer (some ⟨b,0,Option.none⟩),w,?_,?_⟩
   ·rw[run_callFunc_extern (show Tryz.prog.funcs[189]? =_ from Tryz.func189) (by kernel_rfl) (by kernel_rfl) (by kernel_rfl) (e:=Extern.AbiNoEscape.same) (by kernel_rfl)]
    rw[Lib.run_noEscape]
    rfl
   try simp only[go_sem]
   refine zdL (by rfl) (Lib.run_from_unsafe w ⟨b,0,Option.none⟩ (by rfl) (by rfl) hj hsh (by kernel_rfl)) ?_
   try simp only[go_sem]
   refine sv_at (P:=Tryz.prog) (t:=104) (j:=0) (l:=[.pointer Option.none,v]) hb (by simp) rfl rfl rfl ?_
   intro w1 hs1 hb1 hk1
   try simp only[go_sem]
   refine hK _ _ ?_;clear hK hgd;clear K;try clear gd
   repeat refine c_r ?_
   exact zbv (by simp) rfl ⟨by simpa using hb1,hk1,hs1⟩
  ·intro h;cases h
 ·refine enter Tryz.func120 Tryz.ntmps120 rfl rfl ?_
  repeat refine c_r ?_
  refine rq ?_;intro gd K hgd hK
  try simp (disch:=first|omega|assumption|rfl) only[go_sem,c0,Nat.add_zero]
  refine hK _ _ ?_;clear hK hgd;clear K;try clear gd
  repeat refine c_r ?_
  refine wc0 ?_ ?_
  ·intro h;cases h
  intro _
  repeat refine c_r ?_
  refine rq ?_;intro gd K hgd hK
  try simp (disch:=first|omega|assumption|rfl) only[go_sem,c0,Nat.add_zero]
  refine zco (by rfl) hj (by rfl) (by rfl) ?_
  try simp only[go_sem]
  refine hK _ _ ?_;clear hK hgd;clear K;try clear gd
  repeat refine c_r ?_
  refine wc0 ?_ ?_
  ·intro h;cases h
  intro _
  repeat refine c_r ?_
  exact zbv (by simp) rfl ⟨hb,Keep.refl _ _,rfl⟩
theorem zaE{B:Nat}{w:World}{b:Nat}{bs s:List UInt8}(h:Bld B w b bs)(hB:B≤w.heap.size)(hlen:bs.length+s.length≤100000000000):
  Fn Tryz.prog 57 #[.pointer (some ⟨b,0,Option.none⟩),vs s] w (fun _ w'=>Bld B w' b (bs++s)∧Keep (fun i=>i=b∨B≤i) w w'):=by
 obtain⟨p,v,hp,hb,hown⟩:=h.ex
 have hne:=bld_ne hown hb
 obtain⟨inf,hi,hz,hsz,hby⟩:=info_parts (P:=Tryz.prog) (e:=5) (z:= .int .u8 0) (size:=1) (bytes:=1) (by kernel_rfl)
 refine enter Tryz.func57 Tryz.ntmps57 rfl rfl ?_
 repeat refine c_r ?_
 refine rg0 ?_
 repeat refine c_r ?_
 refine rq ?_;intro gd K hgd hK
 try simp only[go_sem]
 refine Fn.mono (zbq hp hb) ?_
 rintro _ w1 ⟨hb1,hk1,hs1⟩
 try simp only[go_sem]
 refine hK _ _ ?_;clear hK hgd;clear K;try clear gd
 have hown1:=hown.keep hk1 (fun i hi he=>hne (he▸hi))
 have c1:zag w1 (some ⟨b,1,Option.none⟩)=some v:=zad hb1 rfl
 repeat refine c_r ?_
 refine rq ?_;intro gd K hgd hK
 try simp (disch:=first|omega|assumption|rfl) only[go_sem,c1,Nat.zero_add]
 refine op_appS hown1 (by rfl) (by rfl) hi hz hsz hby (by rfl) (by rfl) (by simpa using hlen) (by omega) ?_
 intro v2 w2 hown2 hk2
 try simp only[go_sem]
 have hb2:=(hk2.block b (Array.getElem?_eq_some_iff.1 hb1).1 hne).trans hb1
 have hne2:some b≠v2.ownBlock:=fun he=>by
  obtain⟨cur,fr,h1⟩:=zb6 hown2 he
  rw[hb2]at h1
  injection h1 with h1
  injection h1 with _ h2
  revert h2;decide
 obtain⟨a2,c2,hv2⟩:=hown2.slice
 refine sv_at (P:=Tryz.prog) (t:=31) (j:=1) (l:=[.pointer (some ⟨b,0,Option.none⟩),v]) hb2 (by simp) (by rw[hv2];rfl) rfl rfl ?_
 intro w3 hs3 hb3 hk3
 try simp only[go_sem]
 refine hK _ _ ?_;clear hK hgd;clear K;try clear gd
 have hown3:=hown2.keep hk3 (fun i hi he=>hne2 (he▸hi))
 repeat refine c_r ?_
 refine rg0 ?_
 repeat refine c_r ?_
 refine zaj (.inr rfl) Tryz.ntmps57 rfl (zac rfl (zac rfl zah)) ?_
 refine⟨⟨⟨_,v2,.inr rfl,by simpa using hb3,by rw[List.map_append];exact hown3⟩⟩,?_⟩
 exact((hk1.mono (fun i _ h=> .inl h)).trans (hk2.mono (fun i _ h=> .inr (hown1.ge h).1))).trans (hk3.mono (fun i _ h=> .inl h))
theorem zbs{B:Nat}{w:World}{b:Nat}{bs:List UInt8}{c:UInt8}(h:Bld B w b bs)(hB:B≤w.heap.size)(hlen:bs.length+1≤100000000000):
  Fn Tryz.prog 80 #[.pointer (some ⟨b,0,Option.none⟩),zaL c] w (fun _ w'=>Bld B w' b (bs++ [c])∧Keep (fun i=>i=b∨B≤i) w w'):=by
 obtain⟨p,v,hp,hb,hown⟩:=h.ex
 have hne:=bld_ne hown hb
 refine enter Tryz.func80 Tryz.ntmps80 rfl rfl ?_
 repeat refine c_r ?_
 refine rg0 ?_
 repeat refine c_r ?_
 refine rq ?_;intro gd K hgd hK
 try simp only[go_sem]
 refine Fn.mono (zbq hp hb) ?_
 rintro _ w1 ⟨hb1,hk1,hs1⟩
 try simp only[go_sem]
 refine hK _ _ ?_;clear hK hgd;clear K;try clear gd
 have hown1:=hown.keep hk1 (fun i hi he=>hne (he▸hi))
 have c1:zag w1 (some ⟨b,1,Option.none⟩)=some v:=zad hb1 rfl
 repeat refine c_r ?_
 refine rq ?_;intro gd K hgd hK
 try simp (disch:=first|omega|assumption|rfl) only[go_sem,c1,Nat.zero_add]
 refine zc2 (z:= .int .u8 0) (v:=zaL c) (by rfl) (by rfl) (by rfl) (by rfl) (by rfl) ?_
 intro x1 hX1 hXs hXo
 try simp only[go_sem]
 refine op_app (B:=B) (hown1.ext hX1) hXo.row (by rfl) (by rfl) (by rfl) (by rfl) (by rfl) (by rfl) (by rfl) (by rfl) (zdN [c]) (by simp;omega) (by decide) (by have:=hX1.size;omega) ?_
 intro v2 w2 hown2 _ hk2 hfr
 try simp only[go_sem]
 have hb2:=(hk2.block b (by have:=(Array.getElem?_eq_some_iff.1 hb1).1;have:=hX1.size;omega) hne).trans (Ext.at hX1 hb1)
 have hne2:some b≠v2.ownBlock:=fun he=>by
  obtain⟨cur,fr,h1⟩:=zb6 hown2 he
  rw[hb2]at h1
  injection h1 with h1
  injection h1 with _ h2
  revert h2;decide
 obtain⟨a2,c2,hv2⟩:=hown2.slice
 refine sv_at (P:=Tryz.prog) (t:=31) (j:=1) (l:=[.pointer (some ⟨b,0,Option.none⟩),v]) hb2 (by simp) (by rw[hv2];rfl) rfl rfl ?_
 intro w3 hs3 hb3 hk3
 try simp only[go_sem]
 refine hK _ _ ?_;clear hK hgd;clear K;try clear gd
 have hown3:=hown2.keep hk3 (fun i hi he=>hne2 (he▸hi))
 repeat refine c_r ?_
 refine rg0 ?_
 repeat refine c_r ?_
 refine zaj (.inr rfl) Tryz.ntmps80 rfl (zac rfl zah) ?_
 refine⟨⟨⟨_,v2,.inr rfl,by simpa using hb3,by rw[List.map_append];exact hown3⟩⟩,?_⟩
 exact(((hk1.mono (fun i _ h=> .inl h)).trans (hX1.mono (fun i _ h=>h.elim))).trans (hk2.mono (fun i _ h=> .inr (hown1.ge h).1))).trans (hk3.mono (fun i _ h=> .inl h))
theorem zbI(w:World)(p:Addr)(n:Nat):Keep (fun i=>i=p.block) w (w.freeze p n):=by
 unfold World.freeze
 split
 ·exact Keep.refl _ _
 ·exact⟨rfl,rfl,rfl,by simp,fun k hk hne=>by
   simp only[Array.getElem?_modify]
   rw[if_neg (fun h=>hne h.symm)],Nat.le_refl _⟩
theorem zej{B:Nat}{w:World}{b:Nat}{bs:List UInt8}(h:Bld B w b bs)(hlen:bs.length≤100000000000):
  Fn Tryz.prog 64 #[.pointer (some ⟨b,0,Option.none⟩)] w (fun v w'=>v=vs bs∧Keep (fun i=>B≤i) w w'):=by
 obtain⟨p,v,hp,hb,hown⟩:=h.ex
 rcases hown.2 with ⟨rfl,hl⟩| ⟨g,cap,cur,rfl,hgB,hg,hn,hcap,hcs,hx⟩
 ·have h0:bs=[]:=by simpa using hl
  subst h0
  refine enter Tryz.func64 Tryz.ntmps64 rfl rfl ?_
  repeat refine c_r ?_
  refine rg0 ?_
  repeat refine c_r ?_
  refine W_drw (fun _=>false) [(0,true),(1,true),(2,true),(3,true),(5,true),(6,true),(7,true),(8,true),(9,true),(4,false),(10,false),(11,true)] NoS mixed (by kernel_rfl) ?_;intro gd K x hgd hx hxe hK;have hx0:=drewX hxe;clear hxe
  have c1:zag x (some ⟨b,1,Option.none⟩)=some (.slice Option.none 0 0):=zad (Ext.at hx0 hb) rfl
  simp (disch:=first|omega|assumption|rfl) only[go_sem,c1,Nat.zero_add]
  refine zaD (u:= .slice Option.none 0 0) (vq0) (Lib.run_unsafeSliceData_nil _ _ _ _ _) ?_
  refine⟨.inr (Keep.refl _ _),?_⟩
  refine zal (u:= .pointer Option.none) (z:=vi 0) (vq0) (vr0) (Lib.run_unsafeString_none (P:=Tryz.prog) _ _ _ _ _) ?_
  refine⟨.inr (Keep.refl _ _),?_⟩
  refine hK _ _ ?_;clear hK hgd;clear K;try clear gd
  repeat refine c_r ?_
  refine zaj (.inr rfl) Tryz.ntmps64 rfl (zac (vr0) zah) ?_
  exact⟨rfl,hx0.mono (fun i _ h=>h.elim)⟩
 by_cases h0:bs=[]
 ·subst h0
  refine enter Tryz.func64 Tryz.ntmps64 rfl rfl ?_
  repeat refine c_r ?_
  refine rg0 ?_
  repeat refine c_r ?_
  refine W_drw (fun _=>false) [(0,true),(1,true),(2,true),(3,true),(5,true),(6,true),(7,true),(8,true),(9,true),(4,false),(10,false),(11,true)] NoS mixed (by kernel_rfl) ?_;intro gd K x hgd hx hxe hK;have hx0:=drewX hxe;clear hxe
  have c1:zag x (some ⟨b,1,Option.none⟩)=some (.slice (some ⟨g,0,Option.none⟩) 0 cap):=zad (Ext.at hx0 hb) rfl
  have hgx:=Ext.at hx0 hg
  simp (disch:=first|omega|assumption|rfl) only[go_sem,c1,Nat.zero_add]
  by_cases hc0:cap=0
  ·subst hc0
   refine zaD (u:= .slice (some ⟨g,0,Option.none⟩) 0 0) (vq0) (Lib.run_unsafeSliceData_zero (P:=Tryz.prog) _ _ _ 5 (by rfl) _ _ _ (by simp only[World.shape?,hgx];rfl)) ?_
   refine⟨.inr (Ext.alloc x _),?_⟩
   refine zal (u:= .pointer (some ⟨x.heap.size,0,Option.none⟩)) (z:=vi 0) (vq0) (vr0) (Lib.run_unsafeString_none (P:=Tryz.prog) _ _ _ _ _) ?_
   refine⟨.inr (Keep.refl _ _),?_⟩
   refine hK _ _ ?_;clear hK hgd;clear K;try clear gd
   repeat refine c_r ?_
   refine zaj (.inr rfl) Tryz.ntmps64 rfl (zac (vr0) zah) ?_
   exact⟨rfl,(hx0.trans (Ext.alloc x _)).mono (fun i _ h=>h.elim)⟩
  ·refine zaD (u:= .slice (some ⟨g,0,Option.none⟩) 0 cap) (vq0) (Lib.run_unsafeSliceData_row _ _ _ _ _ _ hc0) ?_
   refine⟨.inr (Keep.refl _ _),?_⟩
   refine zal (u:= .pointer (some ⟨g,0,Option.none⟩)) (z:=vi 0) (vq0) (vr0) (Lib.run_unsafeString_none (P:=Tryz.prog) _ _ _ _ _) ?_
   refine⟨.inr (Keep.refl _ _),?_⟩
   refine hK _ _ ?_;clear hK hgd;clear K;try clear gd
   repeat refine c_r ?_
   refine zaj (.inr rfl) Tryz.ntmps64 rfl (zac (vr0) zah) ?_
   exact⟨rfl,hx0.mono (fun i _ h=>h.elim)⟩
 simp only[List.length_map,Nat.mul_one]at hn hx hb hcs
 have hlen0:0<bs.length:=List.length_pos_iff.2 h0
 refine enter Tryz.func64 Tryz.ntmps64 rfl rfl ?_
 repeat refine c_r ?_
 refine rg0 ?_
 repeat refine c_r ?_
 have hbg:b≠g:=fun he=>by
  subst he
  rw[hb]at hg
  injection hg with hg
  injection hg with _ h2
  revert h2;decide
 have hc0:cap≠0:=by omega
 refine W_drw (fun _=>false) [(0,true),(1,true),(2,true),(3,true),(5,true),(6,true),(7,true),(8,true),(9,true),(4,false),(10,false),(11,true)] ((fun i=>i=g)) mixed (by kernel_rfl) ?_;intro gd K x hgd hx hxe hK;have hx0:=drewX hxe;clear hxe
 have c1:zag x (some ⟨b,1,Option.none⟩)=some (.slice (some ⟨g,0,Option.none⟩) bs.length cap):=zad (Ext.at hx0 hb) rfl
 have hgx:=Ext.at hx0 hg
 simp (disch:=first|omega|assumption|rfl) only[go_sem,c1,Nat.zero_add]
 refine⟨fun a ha hb=>(by cases ha;exact hbg hb),fun a ha hb=>(by cases ha;exact hbg hb),?_⟩
 refine zaD (u:= .slice (some ⟨g,0,Option.none⟩) bs.length cap) (vq0) (Lib.run_unsafeSliceData_row _ _ _ _ _ _ hc0) ?_
 refine⟨.inr (Keep.refl _ _),?_⟩
 refine zal (u:= .pointer (some ⟨g,0,Option.none⟩)) (z:=vi bs.length) (vq0) (vq0) (Lib.run_unsafeString_row (P:=Tryz.prog) _ _ _ _ 5 (by rfl) (by rfl) g (cap*1) (by simp[World.shape?,hgx,hcs]) bs h0 (by omega) (by omega) ?_) ?_
 ·intro j y hj
  obtain⟨hj1,hj2⟩:=List.getElem?_eq_some_iff.1 hj
  have hcell:=hown.row
  obtain⟨a,c,e,hc,hgt⟩:=hcell.ext hx0
  injection e with e1 e2 e3
  have h2:=hgt j (by simpa using hj1)
  rw[←e1,List.getElem_map,hj2]at h2
  exact h2
 have hfk:Keep (fun i=>i=g) x (x.freeze ⟨g,0,Option.none⟩ bs.length):=zbI x ⟨g,0,Option.none⟩ bs.length
 refine⟨.inr hfk,?_⟩
 refine hK _ _ ?_;clear hK hgd;clear K;try clear gd
 repeat refine c_r ?_
 refine zaj (.inr rfl) Tryz.ntmps64 rfl (zac (vr0) zah) ?_
 exact⟨rfl,(hx0.mono (fun i _ h=>h.elim)).trans (hfk.mono (fun i _ h=>h▸hgB))⟩
section
variable {P : Program} {d : Option Tmp} {ty : TypeId} {ps : String} {af : Array Edge} {g : Option (Nat × Bool)} {ρ : Operand → Value} {w : World} {K : Value → World → Prop}
theorem op_copyS{x y:Operand}{ts:Array TypeId}{u z v:Value}{w':World}(hx:ρ x=u)(hy:ρ y=z)(hr:(Builtin.copy_ ts ty #[u,z]).run P w= .ok v w')(h:K v w'):
  opW P ⟨d,.call ⟨.builtin .copy,#[x,y],ts⟩,ty,ps,af,g⟩ ρ w K:=by
 simp only[opW,execOp,Sem.run_bind,resolve]
 simp only[Sem.run_pure,Result.andThen_ok,invoke,builtin]
 exact zae (s:=Builtin.copy_ ts ty (Array.map ρ #[x,y])) (by simpa [hx,hy] using hr) h
end
theorem Clone_ok(w:World)(s:Lab)(hs:s.length≤1000000000):Fn Tryz.prog 278 #[vs s] w (fun v w'=>v=vs s∧Ext w w'):=by
 refine enter Tryz.func278 Tryz.ntmps278 rfl rfl ?_
 refine go trivial ?_
 by_cases h0:s=[]
 ·subst h0
  refine wt (by decide:decide (((0:Nat):Int)=0)=true) ?_
  refine go trivial ?_
  refine rt0 Tryz.ntmps278 ?_
  exact⟨rfl,Keep.refl _ _⟩
 have hp:=List.length_pos_iff.2 h0
 have hd:decide ((s.length:Int)=0)=false:=decide_eq_false (by omega)
 refine wf hd ?_
 repeat refine c_r ?_
 refine rq ?_;intro gd K hgd hK
 try simp only[go_sem]
 refine zcl (n:=s.length) rfl rfl rfl rfl (vq0) (vq0) (by show 1*_≤_;omega) (by omega) rfl ?_
 try simp only[go_sem]
 refine hK _ _ ?_;clear hK hgd;clear K;try clear gd
 repeat refine c_r ?_
 refine rq ?_;intro gd K hgd hK
 try simp only[go_sem]
 have hM:(madeCells #[Value.int .u8 0] s.length).size=s.length:=by simp[size_madeCells]
 refine op_copyS (u:= .slice (some ⟨w.heap.size,0,Option.none⟩) s.length s.length) (z:=vs s) (vq0) (vq0)
  (Lib.run_copy_row_string (P:=Tryz.prog) _ _ _ _ 5 w.heap.size 0 s.length s.length ⟨s.toArray⟩ _ 5 rfl (by kernel_rfl) (World.alloc_heap_new w _) (by simp[ByteArray.size]) (by rw[hM];simp[ByteArray.size])) ?_
 rw[World.setRow_alloc_new]
 have hY:((madeCells #[Value.int .u8 0] s.length).toList.take 0++Lib.byteCells (⟨s.toArray⟩:ByteArray).data.toList++(madeCells #[Value.int .u8 0] s.length).toList.drop (0+(⟨s.toArray⟩:ByteArray).size)).toArray=(s.map zaL).toArray:=by
  rw[List.take_zero,List.nil_append,List.drop_of_length_le (by rw[Array.length_toList,hM];simp[ByteArray.size]),List.append_nil]
  rfl
 rw[hY]
 try simp only[go_sem]
 refine hK _ _ ?_;clear hK hgd;clear K;try clear gd
 have hb:(w.alloc (.cells (s.map zaL).toArray 5)).heap[w.heap.size]? =some (.cells (s.map zaL).toArray 5 (0,0)):=World.alloc_heap_new w _
 have hz0:(0:Int)≤0:=Int.le_refl _
 have hl1:(0:Int)<(s.length:Int):=by omega
 repeat refine c_r ?_
 refine rq ?_;intro gd K hgd hK
 try simp (disch:=first|omega|assumption|rfl) only[go_sem,hz0,hl1,Int.toNat_zero,Nat.zero_mul,zc3]
 refine zal (u:= .pointer (some ⟨w.heap.size,0,Option.none⟩)) (z:=vi s.length) (vq0) (vq0) (Lib.run_unsafeString_row (P:=Tryz.prog) _ _ _ _ 5 (by rfl) (by rfl) w.heap.size (s.map zaL).toArray.size (by unfold World.shape?;rw[hb]) s h0 (by simp) (by omega) (fun j y hj=>Lib.cells_of_row hb (s.map zaL).toArray.size j _ (by rw[List.take_of_length_le (by simp)];simp[hj,zaL]))) ?_
 have hfk:=Keep.to_ext (Ext.alloc w (.cells (s.map zaL).toArray 5)) rfl (fun b (hS:b=w.heap.size)=>by omega) (zbI (w.alloc (.cells (s.map zaL).toArray 5)) ⟨w.heap.size,0,Option.none⟩ s.length)
 try simp only[go_sem]
 refine hK _ _ ?_;clear hK hgd;clear K;try clear gd
 repeat refine c_r ?_
 refine rt0 Tryz.ntmps278 ?_
 exact⟨rfl,hfk⟩
/-! where the number is too great:an error,whatever the variable holds -/
theorem zb4(w:World)(f s:Lab)(hs:s.length≤1000000000)(hv:∃t p,w.cell? ⟨3,0,Option.none⟩=some (.iface t p)):
  Calls Tryz.prog 250 #[vs f,vs s] w (fun e w'=>(∃N,e= .returned (.pointer (some ⟨N,0,Option.none⟩)))∧Ext w w'):=by
 obtain⟨te,pe,hv⟩:=hv
 have hvd:w.drew.cell? ⟨3,0,Option.none⟩=some (.iface te pe):=hv
 have hG:3<w.heap.size:=World.block_lt_of_cell? (w:=w) (h:=hv)
 have mx:=mixed
 go_enter Tryz.func250,Tryz.ntmps250
 go_wp2
 go_region_with_o (
  go_at_call 278
  refine(Fn.calls (Clone_ok _ s hs)).mono ?_
  rintro e w2 ⟨_,rfl,rfl,hbel⟩
  have hv2:w2.cell? ⟨3,0,Option.none⟩=some (.iface te pe):=zbd hbel hvd)
 all_goals (
  go_wp2
  go_ret
  exact⟨⟨_,rfl⟩,((Keep.drew NoS w).trans hbel).trans (Ext.alloc _ _)⟩)
theorem zc6(w:World)(f s:Lab)(hs:s.length≤1000000000)(hv:∃t p,w.cell? ⟨3,0,Option.none⟩=some (.iface t p)):
  Calls Tryz.prog 207 #[vs f,vs s,vi 10,vi 64,.iface 288 (.int .i64 1)] w (fun e w'=>(∃t p,e= .returned (.iface t p))∧Ext w w'):=by
 have mx:=mixed
 have hq12:∀W,(binOp .eql 108 (.iface 288 (.int .i64 1)) (.iface 288 (.int .i64 2))).run Tryz.prog W= .ok (.bool false) W:=fun W=>Lib.run_eql_iface_int W 1 2 Tryz.laysPu14.t24 Tryz.laysPu14.c34 Tryz.laysPu14.t34
 have hq11:∀W,(binOp .eql 108 (.iface 288 (.int .i64 1)) (.iface 288 (.int .i64 1))).run Tryz.prog W= .ok (.bool true) W:=fun W=>Lib.run_eql_iface_int W 1 1 Tryz.laysPu14.t24 Tryz.laysPu14.c34 Tryz.laysPu14.t34
 go_enter Tryz.func207,Tryz.ntmps207
 go_wp2_with (go_at_call 250;refine(zb4 _ f s hs hv).mono ?_)
 rintro e w2 ⟨⟨N,rfl⟩,hE⟩
 go_wp2
 go_ret
 exact⟨⟨_,_,rfl⟩,hE⟩
theorem zcY{M:Nat}(hM:M=18446744073709551615):∀(l:Lab) (acc:Nat),l.all digB=true→acc≤M→
  (l.foldl (fun n c=>10*n+(c.toNat - 48)) acc≤M→Lib.parseUintM M acc l= .ok (l.foldl (fun n c=>10*n+(c.toNat - 48)) acc))∧(M<l.foldl (fun n c=>10*n+(c.toNat - 48)) acc→Lib.parseUintM M acc l= .range)
 | [],acc,_,ha=>⟨fun _=>rfl,fun h=>absurd h (by simpa using ha)⟩
 |c::l,acc,hd,ha=>by
  simp only[List.all_cons,Bool.and_eq_true]at hd
  have hc:=hd.1
  unfold digB at hc
  simp only[Bool.and_eq_true,decide_eq_true_eq]at hc
  have mono:∀(l:Lab) (a:Nat),a≤l.foldl (fun n c=>10*n+(c.toNat - 48)) a:=by
   intro l
   induction l with
   |nil=>exact fun a=>Nat.le_refl _
   |cons c l ih=>exact fun a=>Nat.le_trans (show a≤10*a+(c.toNat - 48) by omega) (ih _)
  have hm:=mono l (10*acc+(c.toNat - 48))
  rw[List.foldl_cons]
  unfold Lib.parseUintM
  rw[if_pos hc,Nat.mul_comm acc 10]
  by_cases h1:M<10*acc+(c.toNat - 48)
  ·refine⟨fun h=>by omega,fun _=>?_⟩
   rw[if_pos h1]
   split<;>rfl
  ·by_cases h2:1844674407370955162≤acc
   ·omega
   rw[if_neg h2,if_neg h1]
   exact zcY hM l _ hd.2 (by omega)
theorem zcz{w:World}(hW:WX w)(s:Lab)(h0:s≠ [])(hd:s.all digB=true)(hs:s.length≤1000000000):
  Fn Tryz.prog 135 #[vs s,vi 10,vi 64] w (fun v w'=>(if valD s≤18446744073709551615 then v= .tuple #[.int .u64 (valD s),.nilIface] else∃n t p,v= .tuple #[.int .u64 n,.iface t p])∧Ext w w'):=by
 have hm:(2:Nat) ^ 64 - 1=18446744073709551615:=by decide
 obtain⟨p1,p2⟩:=zcY (M:=2 ^ 64 - 1) hm s 0 hd (Nat.zero_le _)
 have hsz:(⟨s.toArray⟩:ByteArray).size≤9223372036854775806:=by show s.toArray.size≤_;simp;omega
 by_cases hv:valD s≤18446744073709551615
 ·have e1:Lib.parseUintB 64 (⟨s.toArray⟩:ByteArray).data.toList= .ok (valD s):=by
   unfold Lib.parseUintB
   rw[if_neg (by simpa using h0)]
   exact p1 (by rw[hm];exact hv)
  refine Fn.of_calls (Calls.mono (Any.strconv_ParseUint_10_at64_ok Tryz.laysPu14 ⟨s.toArray⟩ hsz _ e1 w) ?_)
  rintro _ w' ⟨rfl,h⟩
  refine⟨_,rfl,by rw[if_pos hv],?_⟩
  rcases h with rfl|rfl
  ·exact Keep.refl _ _
  ·exact Ext.bytes _ _ _
 ·have e1:Lib.parseUintB 64 (⟨s.toArray⟩:ByteArray).data.toList= .range:=by
   unfold Lib.parseUintB
   rw[if_neg (by simpa using h0)]
   exact p2 (by rw[hm];exact Nat.lt_of_not_le hv)
  have hI:=AnyPu.internal_strconv_ParseUint_10_at64 {Tryz.laysPu14 with} ⟨s.toArray⟩ hsz w
  rw[e1]at hI
  have hI:Calls Tryz.prog 206 #[vs s,.int .i64 10,.int .i64 64] w fun e w'=>e= .returned (.tuple #[.int .u64 18446744073709551615,.iface 288 (.int .i64 1)])∧(w'=w∨w'=Lib.bytesWorld w 5 ⟨s.toArray⟩):=hI
  refine Fn.of_calls ?_
  simp only[if_neg hv]
  go_enter Tryz.func135,Tryz.ntmps135
  go_wp2_with (go_at_call 206;refine hI.mono ?_)
  rintro e W1 rfl hw
  have hE1:Ext w W1:=by
   rcases hw with rfl|rfl
   ·exact Keep.refl _ _
   ·exact Ext.bytes _ _ _
  clear hw
  have hW1:=hW.ext hE1
  go_wp2_with (go_at_call 207;refine(zc6 _ [80,97,114,115,101,85,105,110,116] s hs hW1.er).mono ?_)
  rintro e W2 ⟨⟨t,p,rfl⟩,hE2⟩
  go_wp2
  go_ret2
  exact⟨_,rfl,⟨_,_,_,rfl⟩,hE1.trans hE2⟩
theorem i_str0(k:IntKind)(c:UInt8)(r:Lab):ixSD (some .string) (vs (c::r)) (.int k 0)=some (.int .u8 c.toNat):=(i_str (Int.le_refl _) (by simp)).trans rfl
attribute [go_sem] i_str0
section
variable {P : Program} {d : Option Tmp} {ty : TypeId} {ps : String} {af : Array Edge} {g : Option (Nat × Bool)} {ρ : Operand → Value} {w : World} {K : Value → World → Prop}
theorem zbG(alt:Prop)(m:Lck K alt):optL Option.none w K alt m=alt:=rfl
theorem zcE{t yt:TypeId}{x:Operand}{u:Value}{b:Bool}(ht:P.underlying t=some (.interface (P.methodsAt t)))(hu:(u= .nilIface∧b=false)∨((∃k p,u= .iface k p)∧b=true))(hx:ρ x=u)(hn:ρ (.const .nilIface)= .nilIface)(h:K (.bool b) w):
  opW P ⟨d,.binOp .neq t x (.const .nilIface) yt,ty,ps,af,g⟩ ρ w K:=by
 have hr:(do eqGuard .neq t x (.const .nilIface) u .nilIface;binOp .neq t u .nilIface:Sem Value).run P w= .ok (.bool b) w:=by
  rcases hu with ⟨rfl,rfl⟩| ⟨⟨k,p,rfl⟩,rfl⟩
  ·simp[Sem.run,eqGuard,run_neq_nil_nil w t ht]
  ·simp[Sem.run,eqGuard,run_neq_held_nil w t k p ht]
 have:=zae (P:=P) (K:=K) hr h
 rw[←hx,←hn]at this
 exact this
end
theorem zdf(c:UInt8)(r:Lab):zdg (c::r)=((c::r).all digB && !(decide (c=48) && !decide (r=[]))):=by
 unfold zdg
 cases r with
 |nil=>simp
 |cons a r=>by_cases h:c=48<;>simp[h]
theorem zbm{w:World}(hW:WX w)(s:Lab)(most:Nat)(hm:most≤4294967296)(hs:s.length≤1000000000):
  Fn Tryz.prog 74 #[vs s,.int .u64 most] w (fun v w'=>v= .tuple #[.int .u64 (decP most s).1,vi (decP most s).2]∧Ext w w'):=by
 refine enter Tryz.func74 Tryz.ntmps74 rfl rfl ?_
 refine go trivial ?_
 refine zc4 (Q:=fun e σ ds v=>e= .normal∧ds=[]∧σ 0=vs s∧σ 1= .int .u64 most∧σ 23= .bool (!zdg s)∧Ext w v) ?_ ?_
 ·by_cases h0:s=[]
  ·subst h0
   refine rgg [(2,10),(7,15),(11,19)] trivial ?_
   exact⟨rfl,rfl,vr0,vr0,vr0,Keep.refl _ _⟩
  obtain⟨c,r,rfl⟩:=List.exists_cons_of_ne_nil h0
  rw[zdf]
  have d0:decide (c::r=[])=false:=decide_eq_false h0
  refine rcg [(2,10),(7,15),(11,19)] d0 (Trim_ok w (c::r) h0 (by omega)) ?_
  rintro _ w1 ⟨rfl,hE1⟩
  by_cases hd:(c::r).all digB=true
  ·have d1:decide (Lib.trimS (c::r) digs10=[])=true:=decide_eq_true ((zcg _).2 hd)
   rw[hd]
   by_cases h48:c=48
   ·have d2:decide ((c.toNat:Int)=48)=true:=by subst h48;rfl
    have d3:decide (c::r=[48])=decide (r=[]):=by subst h48;simp
    rw[decide_eq_true h48,show(!(true && !(true && !decide (r=[]))))=!decide (r=[]) by cases decide (r=[])<;>rfl]
    refine reg [(2,10),(7,15),(11,19)] (an4 d1 d0 d2 d3) ?_
    exact⟨rfl,rfl,vr0,vr0,vr0,hE1⟩
   have d2:decide ((c.toNat:Int)=48)=false:=decide_eq_false fun h=>h48 (UInt8.toNat_inj.1 (by have:(48:UInt8).toNat=48:=rfl;omega))
   rw[decide_eq_false h48]
   refine reg [(2,10),(7,15),(11,19)] (an3 d1 d0 d2) ?_
   exact⟨rfl,rfl,vr0,vr0,vr0,hE1⟩
  have d1:decide (Lib.trimS (c::r) digs10=[])=false:=decide_eq_false fun h=>hd ((zcg _).1 h)
  simp only[Bool.not_eq_true]at hd
  rw[hd]
  refine reg [(2,10),(7,15),(11,19)] (an2 d1 d0) ?_
  exact⟨rfl,rfl,vr0,vr0,vr0,hE1⟩
 rintro _ σ _ w1 ⟨rfl,rfl,h0,h1,h23,hE1⟩
 unfold decP
 cases hf:zdg s with
 |false=>
  rw[hf]at h23
  refine go (an3 h0 h1 h23) ?_
  refine zaj (.inr rfl) Tryz.ntmps74 rfl (zac (vr0) (zac (vr0) zah)) ?_
  exact⟨rfl,hE1⟩
 |true=>
  rw[hf]at h23
  have hne:s≠ []:=fun h=>by subst h;cases hf
  have had:s.all digB=true:=by
   unfold zdg at hf
   simp only[Bool.and_eq_true]at hf
   exact hf.2.1
  refine go (an3 h0 h1 h23) ?_
  refine rc (an2 h0 h1) (zcz (hW.ext hE1) s hne had hs) ?_
  rintro v w2 ⟨hv,hE2⟩
  by_cases hb:valD s≤18446744073709551615
  ·rw[if_pos hb]at hv
   subst hv
   refine re (an2 h0 h1) ?_
   refine go (an2 h0 h1) ?_
   by_cases hle:valD s≤most
   ·have d1:decide ((most:Int)<(valD s:Int))=false:=decide_eq_false (by omega)
    simp only[if_true,if_pos hle]
    refine rq ?_;intro gd K hgd hK
    have hg2:∀n σ b,za4 gd n σ (some (2,b))=zaO (ev n σ (.tmp 31)) b:=(fun n σ b=>by rw[zao,show gd 2=some 31 from(by rw[hgd];rfl)];rfl)
    try simp only[go_sem]
    rw[show binV Tryz.prog .neq 108 .nilIface .nilIface=Option.none from rfl,zbG]
    refine zcE (u:= .nilIface) (b:=false) (by kernel_rfl) (.inl ⟨rfl,rfl⟩) (vr0) rfl ?_
    try simp (disch:=first|omega|assumption|rfl) only[go_sem,h1,d1,↓hg2]
    refine hK _ _ ?_;clear hK hgd;clear K;try clear gd
    refine go d1 ?_
    refine zaj (.inr rfl) Tryz.ntmps74 rfl (zac (vr0) (zac (vr0) zah)) ?_
    exact⟨rfl,hE1.trans hE2⟩
   ·have d1:decide ((most:Int)<(valD s:Int))=true:=decide_eq_true (by omega)
    simp only[if_true,if_neg hle]
    refine rq ?_;intro gd K hgd hK
    have hg2:∀n σ b,za4 gd n σ (some (2,b))=zaO (ev n σ (.tmp 31)) b:=(fun n σ b=>by rw[zao,show gd 2=some 31 from(by rw[hgd];rfl)];rfl)
    try simp only[go_sem]
    rw[show binV Tryz.prog .neq 108 .nilIface .nilIface=Option.none from rfl,zbG]
    refine zcE (u:= .nilIface) (b:=false) (by kernel_rfl) (.inl ⟨rfl,rfl⟩) (vr0) rfl ?_
    try simp (disch:=first|omega|assumption|rfl) only[go_sem,h1,d1,↓hg2]
    refine hK _ _ ?_;clear hK hgd;clear K;try clear gd
    refine go d1 ?_
    refine zaj (.inr rfl) Tryz.ntmps74 rfl (zac (vr0) (zac (vr0) zah)) ?_
    exact⟨rfl,hE1.trans hE2⟩
  ·rw[if_neg hb]at hv
   obtain⟨n,t,p,rfl⟩:=hv
   refine re (an2 h0 h1) ?_
   refine go (an2 h0 h1) ?_
   simp only[if_true,if_neg (show¬valD s≤most by omega)]
   refine rq ?_;intro gd K hgd hK
   have hg2:∀n σ b,za4 gd n σ (some (2,b))=zaO (ev n σ (.tmp 31)) b:=(fun n σ b=>by rw[zao,show gd 2=some 31 from(by rw[hgd];rfl)];rfl)
   try simp only[go_sem]
   rw[show binV Tryz.prog .neq 108 (.iface t p) .nilIface=Option.none from rfl,zbG]
   refine zcE (u:= .iface t p) (b:=true) (by kernel_rfl) (.inr ⟨⟨_,_,rfl⟩,rfl⟩) (vr0) rfl ?_
   try simp (disch:=first|omega|assumption|rfl) only[go_sem,h1,↓hg2]
   refine hK _ _ ?_;clear hK hgd;clear K;try clear gd
   refine go trivial ?_
   refine zaj (.inr rfl) Tryz.ntmps74 rfl (zac (vr0) (zac (vr0) zah)) ?_
   exact⟨rfl,hE1.trans hE2⟩
section
variable {P : Program} {x : World} {e : TypeId} {K : Value → World → Prop}
theorem zdt{t:TypeId}{cur:Array Value}{l:List Value}(hl:l.length=cur.size)(h1:∀v∈l,one v=true)(hs:tyS P t=l.length)(hi:(P.info? t).isSome=true)
  (hK:∀w',Ext x w'→w'.heap.size=x.heap.size+1→w'.heap[x.heap.size]? =some (.cells l.toArray e (0,0))→K undef w'):stK P t (.pointer (some ⟨x.heap.size,0,Option.none⟩)) (.agg l.toArray) (x.alloc (.cells cur e (0,0))) K:=by
 have hB3:=zaT x (.cells cur e (0,0))
 have hE4:=Ext.alloc x (.cells cur e (0,0))
 have hs4:=zbw x (.cells cur e (0,0))
 refine zbV (P:=P) (t:=t) (l:=l) hB3 hl h1 hs hi ?_
 intro w5 hs5 hB5 hk5
 exact hK w5 (Keep.to_ext hE4 rfl (fun b hb=>by omega) hk5) (by omega) hB5
end
section
variable {P : Program} {w : World} {K : Value → World → Prop} {t : TypeId} {p v : Value} {A B : Obj}
end
section
variable {P : Program} {d : Option Tmp} {ty : TypeId} {ps : String} {af : Array Edge} {g : Option (Nat × Bool)} {ρ : Operand → Value} {w : World} {K : Value → World → Prop}
end
def zaS(a b d:Int):Bool:=decide (0≤a) && (decide (a≤b) && (decide (b≤2147483647) && decide (1≤d)))
theorem zcW(w:World)(a b d:Int):Fn Tryz.prog 75 #[.agg #[vi a,vi b,vi d]] w (fun v w'=>v= .bool (zaS a b d)∧Ext w w'):=by
 refine enter Tryz.func75 Tryz.ntmps75 rfl rfl ?_
 refine go trivial ?_
 refine zaN ?_
 intro w1 hE1 hs1 hA
 have c0:zag w1 (some ⟨w.heap.size,0,Option.none⟩)=some (vi a):=zad hA rfl
 have c1:zag w1 (some ⟨w.heap.size,1,Option.none⟩)=some (vi b):=zad hA rfl
 have c2:zag w1 (some ⟨w.heap.size,2,Option.none⟩)=some (vi d):=zad hA rfl
 unfold zaS
 by_cases h1:0≤a
 ·by_cases h2:a≤b
  ·by_cases h3:b≤2147483647
   ·rw[decide_eq_true h1,decide_eq_true h2,decide_eq_true h3]
    refine rgg [(3,6),(10,13),(15,18)] (an8 c0 c1 c2 (decide_eq_true h1) (decide_eq_true h2) (decide_eq_true h3) (Nat.zero_add 1) (Nat.zero_add 2)) ?_
    refine go trivial ?_
    refine rt0 Tryz.ntmps75 ?_
    exact⟨rfl,hE1⟩
   ·rw[decide_eq_true h1,decide_eq_true h2,decide_eq_false h3]
    refine rgg [(3,6),(10,13),(15,18)] (an8 c0 c1 c2 (decide_eq_true h1) (decide_eq_true h2) (decide_eq_false h3) (Nat.zero_add 1) (Nat.zero_add 2)) ?_
    refine go trivial ?_
    refine rt0 Tryz.ntmps75 ?_
    exact⟨rfl,hE1⟩
  ·rw[decide_eq_true h1,decide_eq_false h2]
   refine rgg [(3,6),(10,13),(15,18)] (an7 c0 c1 c2 (decide_eq_true h1) (decide_eq_false h2) (Nat.zero_add 1) (Nat.zero_add 2)) ?_
   refine go trivial ?_
   refine rt0 Tryz.ntmps75 ?_
   exact⟨rfl,hE1⟩
 ·rw[decide_eq_false h1]
  refine rgg [(3,6),(10,13),(15,18)] (an6 c0 c1 c2 (decide_eq_false h1) (Nat.zero_add 1) (Nat.zero_add 2)) ?_
  refine go trivial ?_
  refine rt0 Tryz.ntmps75 ?_
  exact⟨rfl,hE1⟩
end Go.Proofs.YtanmnkbccfcagaaGreatDoor
