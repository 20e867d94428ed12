/-
  SlotsSafe: for every input the law returns true, and its arguments read as they read before. No condition.
-/
import Derived.Test.YtopemjbakpahfaaSlotsSafeD
import Derived.Test.YtopemjbakpahfaaRows
import Derived.WalkKit
import Derived.ProofKit
import Derived.OpenShut
import Derived.ShutString
import Derived.ChangeOld
import Derived.Below
namespace Go.Proofs.Ytopemjbakpahfaa.slotsSafe
open Go.ChangeShapes Go.WideShapes Go.ChangeAt Go.RowKit
open Go.ChangeMaps (open_string shut_string)
set_option linter.unusedVariables false
theorem over : Rows.slotsSafeRow.holds Try.pinned (OpenSpec.ofChange Rows.slotsSafeSpec) :=
  OpenClaim.holds_of_wide 22 Try.f22 rfl rfl rfl rfl rfl rfl rfl ⟨rfl, rfl, rfl, rfl, rfl⟩ rfl rfl rfl rfl rfl (by kernel_rfl) Try.func22 closed
    (of_decide_eq_true (by kernel_rfl)) (by unfold Func.isWrapper; first | (rw [if_pos (by decide +kernel)]; kernel_rfl) | (rw [if_neg (by decide +kernel)]; exact ⟨rfl, rfl⟩))
    (fun os started H enc _ => lifted os started H enc)
theorem proved : Rows.SlotsSafeSaid := over
#print axioms proved
end Go.Proofs.Ytopemjbakpahfaa.slotsSafe
