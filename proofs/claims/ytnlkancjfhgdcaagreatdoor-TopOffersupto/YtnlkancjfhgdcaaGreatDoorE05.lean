/- Proved here: facts of the row, reckoned by the kernel. Conditions: none beyond the hypotheses that each theorem states. -/
import Derived.Shelf.Slices.In.SortNone
import Derived.Shelf.Sort.Plain
import Derived.Test.YtnlkancjfhgdcaaGreatDoorProg
import Derived.KernelRfl
set_option linter.all false
set_option maxRecDepth 1000000
namespace Ev
open Go Go.Proofs Go.Shelf
def ren:Ren where
 f:=fun|189=>285|125=>368|257=>367|128=>425|129=>426|294=>416|295=>417|296=>418|297=>419|298=>420|299=>421|216=>422|300=>423|301=>424|328=>450|329=>451|330=>452|331=>453|332=>454|215=>455|343=>463|n=>n
 t:=fun|28=>28|3=>3|46=>419|0=>0|51=>509|53=>493|4=>4|183=>503|182=>502|131=>130|5=>5|9=>9|218=>531|222=>433|228=>545|229=>546|n=>n
 g:=fun n=>n
theorem aC1:Lays.n189 Tryz.prog ren where
 mixed:=by kernel_rfl
 f125:=Tryz.func368.trans (by kernel_rfl)
 f128:=Tryz.func425.trans (by kernel_rfl)
 f129:=Tryz.func426.trans (by kernel_rfl)
 f189:=Tryz.func285.trans (by kernel_rfl)
 f215:=Tryz.func455.trans (by kernel_rfl)
 f216:=Tryz.func422.trans (by kernel_rfl)
 f257:=Tryz.func367.trans (by kernel_rfl)
 f294:=Tryz.func416.trans (by kernel_rfl)
 f295:=Tryz.func417.trans (by kernel_rfl)
 f296:=Tryz.func418.trans (by kernel_rfl)
 f297:=Tryz.func419.trans (by kernel_rfl)
 f298:=Tryz.func420.trans (by kernel_rfl)
 f299:=Tryz.func421.trans (by kernel_rfl)
 f300:=Tryz.func423.trans (by kernel_rfl)
 f301:=Tryz.func424.trans (by kernel_rfl)
 f328:=Tryz.func450.trans (by kernel_rfl)
 f329:=Tryz.func451.trans (by kernel_rfl)
 f330:=Tryz.func452.trans (by kernel_rfl)
 f331:=Tryz.func453.trans (by kernel_rfl)
 f332:=Tryz.func454.trans (by kernel_rfl)
 f343:=Tryz.func463.trans (by kernel_rfl)
 t0:=Tryz.underlying0
 a0:=Tryz.isAgg0
 z0:=Tryz.sizeOf0
 v0:=Tryz.zeroValue0
 t3:=Tryz.underlying3
 a3:=Tryz.isAgg3
 z3:=Tryz.sizeOf3
 v3:=Tryz.zeroValue3
 t4:=Tryz.underlying4
 a4:=Tryz.isAgg4
 z4:=Tryz.sizeOf4
 v4:=Tryz.zeroValue4
 t5:=Tryz.underlying5
 a5:=Tryz.isAgg5
 z5:=Tryz.sizeOf5
 v5:=Tryz.zeroValue5
 t9:=Tryz.underlying9
 a9:=Tryz.isAgg9
 z9:=Tryz.sizeOf9
 v9:=Tryz.zeroValue9
 t28:=Tryz.underlying28
 a28:=Tryz.isAgg28
 z28:=Tryz.sizeOf28
 v28:=Tryz.zeroValue28
 t46:=Tryz.underlying419
 a46:=Tryz.isAgg419
 z46:=Tryz.sizeOf419
 v46:=Tryz.zeroValue419
 t51:=Tryz.underlying509
 a51:=Tryz.isAgg509
 z51:=Tryz.sizeOf509
 v51:=Tryz.zeroValue509
 t53:=Tryz.underlying493
 a53:=Tryz.isAgg493
 z53:=Tryz.sizeOf493
 v53:=Tryz.zeroValue493
 t131:=Tryz.underlying130
 a131:=Tryz.isAgg130
 z131:=Tryz.sizeOf130
 v131:=Tryz.zeroValue130
 t182:=Tryz.underlying502
 a182:=Tryz.isAgg502
 z182:=Tryz.sizeOf502
 v182:=Tryz.zeroValue502
 t183:=Tryz.underlying503
 a183:=Tryz.isAgg503
 z183:=Tryz.sizeOf503
 v183:=Tryz.zeroValue503
 t218:=Tryz.underlying531
 a218:=Tryz.isAgg531
 z218:=Tryz.sizeOf531
 v218:=Tryz.zeroValue531
 t222:=Tryz.underlying433
 a222:=Tryz.isAgg433
 z222:=Tryz.sizeOf433
 v222:=Tryz.zeroValue433
 t228:=Tryz.underlying545
 a228:=Tryz.isAgg545
 z228:=Tryz.sizeOf545
 v228:=Tryz.zeroValue545
 t229:=Tryz.underlying546
 a229:=Tryz.isAgg546
 z229:=Tryz.sizeOf546
 v229:=Tryz.zeroValue546
end Ev
