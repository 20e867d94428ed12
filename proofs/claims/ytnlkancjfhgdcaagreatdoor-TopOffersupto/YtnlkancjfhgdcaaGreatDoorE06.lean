/- Proved here: facts of the row, reckoned by the kernel. Conditions: none beyond the hypotheses that each theorem states. -/
import Derived.JoinedOf
import Derived.Test.YtnlkancjfhgdcaaGreatDoorE01
import Derived.Test.YtnlkancjfhgdcaaGreatDoorE02
import Derived.Test.YtnlkancjfhgdcaaGreatDoorE03
import Derived.Test.YtnlkancjfhgdcaaGreatDoorE04
set_option linter.all false
set_option maxRecDepth 1000000
namespace Ev
open Go Go.Proofs YtnlkancjfhgdcaaGreatDoor.Rows
theorem aEP{a b:Bool}(ha:a=true)(hb:b=true):(a&&b)=true:=by rw[ha,hb];rfl
set_option maxHeartbeats 4000000 in
theorem EL:joinedFacts Tryz.prog 3 Tryz.f3 (OpenSpec.upto topOffersSpec).bare topOffersUptoRow=true:=by
 unfold joinedFacts
 repeat' with_reducible refine aEP ?_ ?_
 all_goals first
  |with_reducible exact j1
  |with_reducible exact j2
  |with_reducible exact j3
  |with_reducible exact j4
  |as_aux_lemma=>kernel_rfl
end Ev
