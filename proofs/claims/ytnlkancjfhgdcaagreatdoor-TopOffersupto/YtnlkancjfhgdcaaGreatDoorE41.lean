/- Proved here: what the small case comes to, reckoned by the kernel. Conditions: none beyond the hypotheses that each theorem states. -/
import Derived.Test.YtnlkancjfhgdcaaGreatDoorE30
set_option linter.all false
set_option maxRecDepth 1000000
open Go Go.Proofs
namespace Ev
noncomputable section
theorem q1:E3 3000 283 [.ptr 21 0,iv 0] (i4 131 sb0) 3591 [(21,7,.slice 3573 0 2 2 2),(3573,1,.slice 3383 0 3 3 0)] 18 [.slice 3383 0 3 3 0] [0,1,9,10,18,19,21,20,3573,3383,3439,3590,576,578,580] []=some (.tuple [],iv 1,sb1):=by kernel_rfl
end
end Ev
