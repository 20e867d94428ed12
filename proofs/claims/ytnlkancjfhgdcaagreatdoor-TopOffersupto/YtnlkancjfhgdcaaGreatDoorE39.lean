/- Proved here: what the small case comes to, reckoned by the kernel. Conditions: none beyond the hypotheses that each theorem states. -/
import Derived.Test.YtnlkancjfhgdcaaGreatDoorE30
set_option linter.all false
set_option maxRecDepth 1000000
open Go Go.Proofs
namespace Ev
noncomputable section
theorem aJd:E3 3000 76 [.ptr 7 0,.int .u8 3,.int .u8 0] (bI (nw (i4 10829 (gb3++q9 gd3)) (.cells [.int .u8 0,.int .u8 0])) 10829 (.cells [.int .u8 3,.int .u8 0])) 12169 [(7,6,.ptr 186 0),(186,0,.ptr 181 0),(181,0,.ptr 27 0)] 30 [.ptr 27 0] [0,2,3,7,10,186,181,27,41,55,26,12168,5062,6510,10827,12167,207,209,211,264,315,281,286,291,348,365,370,11590,11671] gd4=some (.tuple [],.bool false,gb4):=by kernel_rfl
end
end Ev
