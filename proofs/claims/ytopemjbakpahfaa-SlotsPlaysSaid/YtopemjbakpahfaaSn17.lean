/-
  Contracts and plain laws, part 17 (texts: Reg). No condition but what each states.
-/
import Derived.Test.YtopemjbakpahfaaSn16
import Derived.OrdersHeld
import Derived.WalkKit
/-
  One operation of a region that draws its order, where a fact is kept all along: a small law beside the kit's. It speaks of no program. No condition.
-/
namespace Go.Proofs.Ytopemjbakpahfaa
theorem wpAnyH_one {P : Program} {ops : Array Oper} {Q : Exit → Act → World → Prop} {md : Region.Mode} {S : World → Prop} {fuel : Nat} {listed : Array Bool} {a : Act} {w : World} {i : Nat} {o : Oper}
    (hr : Region.ready md ops listed = [i]) (ho : ops[i]? = some o) (hw : Region.wanted o (yielded ops a.tmps) = true)
    (h : ∀ K : Act → World → Prop, (∀ a' w', S w' → wpAnyH P md ops Q S fuel (listed.setIfInBounds i true) a' w' → K a' w') → o.wp P a w K Q) : wpAnyH P md ops Q S (fuel + 1) listed a w := by
  refine wpAnyH_all hr (by simp) ?_
  intro j hj
  obtain rfl := List.mem_singleton.1 hj
  unfold wpOp
  rw [ho]
  simp only [hw, if_true]
  exact .inl (h _ (fun _ _ h1 h2 => ⟨h1, h2⟩))
end Go.Proofs.Ytopemjbakpahfaa
