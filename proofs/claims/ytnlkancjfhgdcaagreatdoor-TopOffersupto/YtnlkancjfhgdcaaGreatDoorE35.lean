/- Proved here: what the small case comes to, reckoned by the kernel. Conditions: none beyond the hypotheses that each theorem states. -/
import Derived.Test.YtnlkancjfhgdcaaGreatDoorE30
set_option linter.all false
set_option maxRecDepth 1000000
open Go Go.Proofs
namespace Ev
noncomputable section
theorem p27:E3 3000 27 [.ptr 7 0] aI6 376 [] 28 [.slice 1 0 8 8 0] [0,2,3,7,10,186,181,27,41,55,26,207,209,211,264,315,281,286,291,348,365,370,176,168] gd0=some (.bool true,sY,gb0):=by kernel_rfl
theorem p32:evh 3000 32 [.ptr 186 0] (i4 12169 (gb4++q9 gd4)) [0,2,3,7] []=some (.agg GF,gb5):=by kernel_rfl
end
end Ev
