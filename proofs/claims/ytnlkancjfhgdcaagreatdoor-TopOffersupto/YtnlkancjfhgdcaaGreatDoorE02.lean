/- Proved here: the law over the form, and its card. Conditions: none beyond the hypotheses that each theorem states. -/
import Derived.Test.YtnlkancjfhgdcaaGreatDoorRows
import Derived.KernelRfl
set_option linter.all false
set_option maxRecDepth 1000000
namespace Ev
open Go Go.Proofs YtnlkancjfhgdcaaGreatDoor.Rows
theorem j2:(topOffersUptoRow.unfollowed==Tryz.prog.unfollowed 3)=true:=by kernel_rfl
end Ev
