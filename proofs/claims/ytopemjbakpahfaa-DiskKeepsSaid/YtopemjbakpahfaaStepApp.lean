/-
  Appending bytes to bytes of the call's own as one step of a region whose order is drawn. No condition but that the lengths are small.
-/
import Derived.Test.YtopemjbakpahfaaApp
import Derived.Maps.AppendAt
import Derived.Deep.RegionLaw
namespace Go.Proofs.Ytopemjbakpahfaa
open Go.RowKit Crc
theorem RB.zero {w : World} {a : Option Addr} {l : List UInt8} (h : l.length = 0) : RB w a l := fun i hi => by omega
theorem step_append_bytes {ops : Array Oper} {o : Oper} {a : Act} {w : World} {K : Act → World → Prop} {Q : Exit → Act → World → Prop} {E : Prop}
    (hg : o.guard = none) (s x : Operand) (hop : o.op = Op.call { callee := Callee.builtin Builtin.append, args := #[s, x], argTypes := #[22, 22] })
    (base : Nat) (v : Value) (l m : List UInt8) (c n' : Nat) (hs : a.eval s = v) (hown : w.ownsRow base 5 1 v l.length (l.map byteV)) (ad : Addr) (hx : a.eval x = .slice (some ad) n' c) (hn' : m.length = n')
    (hr : RB w (some ad) m) (hb : l.length + m.length ≤ 1000000000) (b3 : base ≤ w.heap.size)
    (hK : ∀ v' w', w'.ownsRow base 5 1 v' (l ++ m).length ((l ++ m).map byteV) → w.grownBy w' v.ownBlock → (v'.ownBlock = v.ownBlock ∨ v'.ownBlock = some w.heap.size) → K (a.put o.dst v') w') :
    if Region.wanted o (yielded ops a.tmps) = true then Oper.wp Try.prog o a w K Q else E := by
  subst hn'
  have hw : Region.wanted o (yielded ops a.tmps) = true := by simp [Region.wanted, hg]
  rw [if_pos hw]
  obtain ⟨i0, hi, hz0, hz1, hz2⟩ := info_parts info5
  obtain ⟨v', w', hrun, r1, r2, _, r3⟩ := run_append_own_at (P := Try.prog) w base 22 o.type 5 i0 (.int .u8 0) 1 1 Try.underlying22 hi hz0 hz1 hz2 rfl (by decide) v l.length _ hown ad m.length c (m.map byteV) (by simp) hr.news (oneCell_bytes m) (by unfold maxLen; omega) (by omega) b3
  unfold Oper.wp
  simp [execOp, hop, resolve, invoke, builtin, hs, hx, hrun, Result.andThen]
  exact hK v' w' (by simpa using r1) r2 r3
/-- A row that another row's append leaves alone. -/
theorem owns_apart {A B : World} {base e n s : Nat} {u : Value} {xs : List Value} {row : Option Nat} (h : A.ownsRow base e s u n xs) (hg : A.grownBy B row) (hr : u.ownBlock = none ∨ u.ownBlock ≠ row) : B.ownsRow base e s u n xs := h.kept hg hr
theorem lit_block (g n c : Nat) : (Value.slice (some ⟨g, 0, none⟩) n c).ownBlock = some g := rfl
end Go.Proofs.Ytopemjbakpahfaa
