/- Proved here: what the small case comes to, reckoned by the kernel. Conditions: none beyond the hypotheses that each theorem states. -/
import Derived.Test.YtnlkancjfhgdcaaGreatDoorE30
set_option linter.all false
set_option maxRecDepth 1000000
open Go Go.Proofs
namespace Ev
noncomputable section
theorem aJc:E3 3000 76 [.ptr 7 0,.int .u8 0,.int .u8 0] (bI (nw (i4 6512 (gb2++q9 gd2)) (.cells [.int .u8 0,.int .u8 0])) 6512 (.cells [.int .u8 0,.int .u8 0])) 10829 [(7,6,.ptr 186 0),(186,0,.ptr 181 0),(181,0,.ptr 27 0)] 30 [.ptr 27 0] [0,2,3,7,10,186,181,27,41,55,26,10828,5062,6510,10827,207,209,211,264,315,281,286,291,348,365,370,10114,10242,10236,10238,10240] gd3=some (.tuple [],.bool false,gb3):=by kernel_rfl
end
end Ev
