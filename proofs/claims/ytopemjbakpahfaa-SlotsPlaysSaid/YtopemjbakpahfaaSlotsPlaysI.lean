/-
  Contracts and plain laws, part 52 (texts: SlotsPlaysC). No condition but what each states.
-/
import Derived.Test.YtopemjbakpahfaaSlotsPlaysH
import Derived.Test.YtopemjbakpahfaaRows
import Derived.WalkKit
import Derived.ProofKit
import Derived.OpenShut
import Derived.ShutString
import Derived.ChangeOld
import Derived.Below
/-
  SlotsPlays: the closed facts of its row. No condition.
-/
namespace Go.Proofs.Ytopemjbakpahfaa.slotsPlays
open Go.ChangeShapes Go.WideShapes Go.ChangeAt Go.RowKit
open Go.ChangeMaps (open_string shut_string)
set_option linter.unusedVariables false
theorem band {a b : Bool} (h : a = true) (k : b = true) : (a && b) = true := by rw [h, k]; rfl
set_option maxRecDepth 100000 in
set_option maxHeartbeats 8000000 in
theorem closed : joinedFacts Try.pinned.checked.prog 21 Try.f21 Rows.slotsPlaysSpec Rows.slotsPlaysRow = true := by
  unfold joinedFacts
  repeat' (with_reducible refine band ?_ ?_)
  all_goals as_aux_lemma => kernel_rfl
end Go.Proofs.Ytopemjbakpahfaa.slotsPlays
