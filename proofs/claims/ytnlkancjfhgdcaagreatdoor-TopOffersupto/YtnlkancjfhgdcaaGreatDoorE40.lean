/- Proved here: what the small case comes to, reckoned by the kernel. Conditions: none beyond the hypotheses that each theorem states. -/
import Derived.Test.YtnlkancjfhgdcaaGreatDoorE30
set_option linter.all false
set_option maxRecDepth 1000000
open Go Go.Proofs
namespace Ev
noncomputable section
theorem q0:E3 3000 282 [.ptr 21 0,.rslice [.rslice [iv 0,iv 1] 1 1 false,.aB,.aB] 3 3 false] gHC 131 [(21,7,.slice 130 0 1 1 2),(130,0,.rslice [.rslice [iv 0,iv 1] 1 1 false,.aB,.aB] 3 3 false)] 18 [.rslice [.rslice [iv 0,iv 1] 1 1 false,.aB,.aB] 3 3 false] [0,1,9,10,18,19,21,20,130] []=some (iv 0,iv 1,sb0):=by kernel_rfl
theorem q3:evh 3000 283 [.ptr 21 0,iv 2] (i4 6774 sb2) [0,1,9,10,18,19,21,20,6756,3383,3439,6566,6647,6773,576,578,580,5226,5228,5230] []=some (.tuple [],sb3):=by kernel_rfl
end
end Ev
