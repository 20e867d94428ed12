/- Proved here: what the small case comes to, reckoned by the kernel. Conditions: none beyond the hypotheses that each theorem states. -/
import Derived.Test.YtnlkancjfhgdcaaGreatDoorE30
set_option linter.all false
set_option maxRecDepth 1000000
open Go Go.Proofs
namespace Ev
noncomputable section
theorem aJb:E3 3000 76 [.ptr 7 0,.int .u8 3,.int .u8 0] (bI (nw (i4 5064 (gb1++q9 gd1)) (.cells [.int .u8 0,.int .u8 0])) 5064 (.cells [.int .u8 3,.int .u8 0])) 6512 [(7,6,.ptr 186 0),(186,0,.ptr 181 0),(181,0,.ptr 27 0)] 30 [.ptr 27 0] [0,2,3,7,10,186,181,27,41,55,26,6511,5062,6510,207,209,211,264,315,281,286,291,348,365,370,5933,5989] gd2=some (.tuple [],.bool false,gb2):=by kernel_rfl
end
end Ev
