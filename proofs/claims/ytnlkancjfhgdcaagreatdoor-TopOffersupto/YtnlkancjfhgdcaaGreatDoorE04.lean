/- Proved here: facts of the row, reckoned by the kernel. Conditions: none beyond the hypotheses that each theorem states. -/
import Derived.Test.YtnlkancjfhgdcaaGreatDoorRows
import Derived.KernelRfl
set_option linter.all false
set_option maxRecDepth 1000000
namespace Ev
open Go Go.Proofs YtnlkancjfhgdcaaGreatDoor.Rows
theorem j4:(topOffersUptoRow.named==Tryz.prog.varsNamed 3)=true:=by kernel_rfl
end Ev
