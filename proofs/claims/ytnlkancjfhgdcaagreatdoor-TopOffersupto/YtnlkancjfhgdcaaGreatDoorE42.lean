/- Proved here: what the small case comes to, reckoned by the kernel. Conditions: none beyond the hypotheses that each theorem states. -/
import Derived.Test.YtnlkancjfhgdcaaGreatDoorE30
set_option linter.all false
set_option maxRecDepth 1000000
open Go Go.Proofs
namespace Ev
noncomputable section
theorem q2:E3 3000 283 [.ptr 21 0,iv 1] (i4 3591 sb1) 6774 [(21,7,.slice 6756 0 3 3 2),(6756,2,.slice 6566 0 3 3 0)] 18 [.slice 6566 0 3 3 0] [0,1,9,10,18,19,21,20,6756,3383,3439,6566,6647,6773,576,578,580,5226,5228,5230] []=some (.tuple [],iv 1,sb2):=by kernel_rfl
end
end Ev
