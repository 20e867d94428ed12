/-
  SlotsPlays: for every input the law returns true, and its arguments read as they read before. No condition.
-/
import Derived.Test.YtopemjbakpahfaaSlotsPlaysI
import Derived.Test.YtopemjbakpahfaaRows
import Derived.WalkKit
import Derived.ProofKit
import Derived.OpenShut
import Derived.ShutString
import Derived.ChangeOld
import Derived.Below
namespace Go.Proofs.Ytopemjbakpahfaa.slotsPlays
open Go.ChangeShapes Go.WideShapes Go.ChangeAt Go.RowKit
open Go.ChangeMaps (open_string shut_string)
set_option linter.unusedVariables false
theorem over : Rows.slotsPlaysRow.holds Try.pinned (OpenSpec.ofChange Rows.slotsPlaysSpec) :=
  OpenClaim.holds_of_wide 21 Try.f21 rfl rfl rfl rfl rfl rfl rfl ⟨rfl, rfl, rfl, rfl, rfl⟩ rfl rfl rfl rfl rfl (by kernel_rfl) Try.func21 closed
    (of_decide_eq_true (by kernel_rfl)) (by unfold Func.isWrapper; first | (rw [if_pos (by decide +kernel)]; kernel_rfl) | (rw [if_neg (by decide +kernel)]; exact ⟨rfl, rfl⟩))
    (fun os started H enc _ => lifted os started H enc)
theorem proved : Rows.SlotsPlaysSaid := over
#print axioms proved
end Go.Proofs.Ytopemjbakpahfaa.slotsPlays
