/- Proved here: what the small case comes to, reckoned by the kernel. Conditions: none beyond the hypotheses that each theorem states. -/
import Derived.Test.YtnlkancjfhgdcaaGreatDoorE30
set_option linter.all false
set_option maxRecDepth 1000000
open Go Go.Proofs
namespace Ev
noncomputable section
theorem p25:evy 3000 25 [.agg dD]=some (.tuple [.agg [iv 0,iv 0],iv 0]):=by kernel_rfl
theorem p15:evy 3000 15 [.agg dD]=some gM0:=by kernel_rfl
theorem p44:evy 3000 44 [gM0]=some (.rslice [.rslice [iv 0,iv 1] 1 1 false,.aB,.aB] 3 3 false):=by kernel_rfl
theorem p14:evy 3000 14 [.agg dD,gM]=some (.bool true):=by kernel_rfl
theorem p33:evy 3000 33 [.agg dD,.agg GF]=some (.bool true):=by kernel_rfl
end
end Ev
