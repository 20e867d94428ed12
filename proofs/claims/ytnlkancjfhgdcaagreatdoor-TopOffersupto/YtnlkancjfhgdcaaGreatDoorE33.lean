/- Proved here: what the small case comes to, reckoned by the kernel. Conditions: none beyond the hypotheses that each theorem states. -/
import Derived.Test.YtnlkancjfhgdcaaGreatDoorE30
set_option linter.all false
set_option maxRecDepth 1000000
open Go Go.Proofs
namespace Ev
noncomputable section
theorem p12:evy 3000 12 []=some Q0:=by kernel_rfl
theorem p24:evy 3000 24 [Q0]=some (.tuple [.agg dD,iv 177,iv 0]):=by kernel_rfl
end
end Ev
